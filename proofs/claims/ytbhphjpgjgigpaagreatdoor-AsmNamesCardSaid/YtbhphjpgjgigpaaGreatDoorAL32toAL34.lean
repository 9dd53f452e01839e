import Derived.Test.YtbhphjpgjgigpaaGreatDoorAL27toAL31
import Derived.ChangeSlices
import Derived.Lib.SmallJoins
import Derived.Carry
set_option linter.all false
set_option autoImplicit true
set_option relaxedAutoImplicit true
set_option maxRecDepth 100000
namespace Go.Proofs.YtbhphjpgjgigpaaGreatDoor.AL
section
open Go.RowKit
section
variable {H:Type}{enc:TypeId×Value→H}
theorem CF {a:Assume}{C:Checked}{os:Os}{f:FuncId}{fn:Func}{s:ChangeSpec}{conds:List PathCond}{apart fresh handsOn again:Bool}{X:World→Array Value→Prop}
  (hX:∀ (w w':World) (args:Array Value),w.heap=w'.heap→X w args→X w' args)
  (own:ownKnob C.prog.godebug=none) (started:os.Started) (noInit:C.prog.inits.idxOf? f=none) (hfn:C.prog.funcs[f]?=some fn)
  (witness:∃ (w:World) (tape:Tape) (i:Input),w.os=os∧(w.forCall tape i).Shaped C.prog∧i.vars=[]∧Input.okWide C.prog (w.forCall tape i) .any w.heap.size f i∧
   ((s.pre enc C.prog fn conds apart (w.forCall tape i).memory i.args∧X (w.forCall tape i).memory i.args)∧sizedMet enc C.prog fn (OpenSpec.ofChange s) apart (w.forCall tape i).memory i.args)∧a.holds C.prog (lone (Frame.enter C.prog f i.args .normal) [] (w.forCall tape i)))
  (contract:∀ (W:World) (base:Nat) (args:Array Value) (ds gs:List (DataW H)) (before:List MemPlace),
   (∀ (j:Nat) t v,fn.params[j]?=some t→args[j]?=some v→Value.okWide C.prog W .any base t v)→
   DataW.Whole enc C.prog fn.params.toList s.vars apart W args.toList ds gs before→(DataW.weightsEach C.prog (fn.params.toList++(OpenSpec.ofChange s).bare.plain.varTypes C.prog) (ds++gs)).all (·≤reachBytes)=true→X W args→W.ShapedOpen C.prog→
   Calls C.prog f args W fun e W'=>∃ v,e=.returned v∧s.post enc C.prog fn apart fresh handsOn again W args v W'):
  ReturnsInHanded a C os f .any (fun w args=>(s.pre enc C.prog fn conds apart w args∧X w args)∧sizedMet enc C.prog fn (OpenSpec.ofChange s) apart w args) (s.post enc C.prog fn apart fresh handsOn again):=by
 refine returnsInHanded_of_calls own started noInit witness ?_
 intro w tape i _ hsh _ hok hpre hholds
 obtain⟨_,_,_,fn',hfn',_,_,_,_,hval⟩:=hok
 have e:fn'=fn:=Option.some.inj (hfn'.symm.trans hfn)
 subst e
 obtain⟨⟨_,hx⟩,_,ds,gs,before,hw,hz⟩:=hpre
 have hw':=DataW.Whole.of_heap (w':=w.forCall tape i) (by rfl) hw
 refine (contract (w.forCall tape i) w.heap.size i.args ds gs before hval hw' hz (hX _ _ _ (by rfl) hx) hsh).mono fun e W' ⟨v,he,hp⟩=>?_
 subst he
 exact ChangeSpec.post_blind hp
end
end
section
open Go Go.ChangeShapes Go.WideShapes Go.RowKit Go.Deep Go.Joins
variable [Tabs]
section
variable {H:Type}{enc:TypeId×Value→H}{P:Program}{W:World}{spare:Nat→Bool}{held:Bool}
theorem H9 {t e:TypeId}{a:Addr}{len cap:Nat}{r:Reach}{b0:Nat}(ht:P.underlying t=some (.slice e)) (h:Value.okWide P W r b0 t (.slice (some a) len cap)):a.spot=none:=by
 unfold Value.okWide at h
 rw[ht]at h
 simp only[Cell.okWide,Cell.ok,ht,World.has]at h
 exact h.2.2.2.1
theorem Eg {G:Gh}{b:Nat}:∀ (cs:List AV) (o:Nat),(∀ i,∀ h:i<cs.length,∃ v,G.F b (o+i)=some v∧Rep G cs[i] v)→RepAt G cs b o
 | [],o,_=>by simp[RepAt]
 | c::cs,o,h=>by
   simp only[RepAt]
   refine⟨by have:=h 0 (by simp);rwa [Nat.add_zero]at this,Eg cs (o+1) fun i hi=>?_⟩
   have:=h (i+1) (by simpa using hi)
   simpa [Nat.add_assoc,Nat.add_comm 1] using this
theorem DY {k:IntKind}{t e:TypeId}{v:Value}{d:DataW H}{ps:List MemPlace}{r:Reach}{b0:Nat}(ht:P.underlying t=some (.slice e)) (he:P.underlying e=some (.int k)) (hc:P.cellsOf e=1)
  (hval:Value.okWide P W r b0 t v) (hd:DataW.Trod enc P W 0 spare held t v d ps):
  ∃ ns:List Int,(∀ x∈ns,(Lit.int k x).wf=true)∧ns.length≤maxLen∧Rep (G0 W) (.snap ns.length (ns.map fun n=>.lit (.int k n))) v:=by
 obtain⟨a,len,cap,rfl⟩:=okWide_slice ht hval
 obtain⟨fuel,hf⟩:=hd
 rcases open_ints ht he hc hf with ⟨hcs,_⟩|⟨a',len',cap',zs,hcs,hb,hl,hm,hz,_,hcell,hwz⟩
 ·simp[Value.cells]at hcs
  obtain⟨rfl,rfl,rfl⟩:=hcs
  exact⟨[],by simp,Nat.zero_le _,by simp[Rep]⟩
 ·simp[Value.cells]at hcs
  obtain⟨rfl,rfl,rfl⟩:=hcs
  have hs:=H9 ht hval
  obtain⟨b,o,sp⟩:=a'
  subst hs
  have hlz:len≤zs.length:=by rw[hz];split<;>omega
  refine⟨zs.take len,fun x hx=>hwz x (List.mem_of_mem_take hx),by simp;omega,?_⟩
  simp only[Rep]
  have hn:(zs.take len).length=len:=by simp;omega
  rw[hn]
  refine .inr ⟨b,o,cap,hl,rfl,Eg _ _ fun i hi=>?_⟩
  have hi':i<len:=by simp at hi;omega
  have:=hcell i (by omega)
  refine⟨.int k (zs.getD i 0),?_,?_⟩
  ·have ea:(⟨b,o,none⟩:Addr).add i=⟨b,o+i,none⟩:=by
    unfold Addr.add
    split<;>simp_all
   rw[ea]at this
   exact this
  ·have hg:zs.getD i 0=zs[i]'(by omega):=by simp[List.getD,List.getElem?_eq_getElem (show i<zs.length by omega)]
   rw[hg]
   simp[Rep,Value.oneCell']
