import Derived.Test.YtgkmmcdhhkllnaaGreatDoorAL1toAL8n
import Derived.Laws.IdiomStrings
import Derived.Laws.BytesArg
import Derived.Laws.MakeOwn
import Derived.Laws.StructEq
import Derived.Laws.Externs
import Derived.Lib.Bytealg
set_option linter.all false
set_option autoImplicit true
set_option relaxedAutoImplicit true
set_option maxRecDepth 100000
namespace Go.Proofs.YtgkmmcdhhkllnaaGreatDoor.AL
section
variable [Tabs]
section
variable {P:Program}{G:Gh}{h:ae}{w:World}
def yI:List AV→Option (List UInt8)
 | []=>some []
 | .lit (.int .u8 n)::r=>match yI r with|some l=>some (UInt8.ofNat n.toNat::l)|none=>none
 | _=>none
theorem Ey:∀ {xs:List AV}{vs:List Value}{l:List UInt8},RepL G xs vs→yI xs=some l→∃ ns:List Int,vs=ns.map (Value.int .u8)∧l=ns.map fun n=>UInt8.ofNat n.toNat
 | [],vs,l,r,h=>by simp only[RepL]at r;simp only[yI,Option.some.injEq]at h;subst r;subst h;exact⟨[],rfl,rfl⟩
 | a::xs,vs,l,r,h=>by
   simp only[RepL]at r
   obtain⟨v,ws,rfl,h1,h2⟩:=r
   unfold yI at h
   split at h
   ·rename_i hn;cases hn
   ·rename_i n r' hn
    cases hn
    split at h
    ·rename_i l' hl
     cases h
     obtain⟨ns,rfl,rfl⟩:=Ey h2 hl
     simp only[Rep]at h1
     exact⟨n::ns,by simp[h1.1],by simp⟩
    ·cases h
   ·cases h
def zr:AV→Bool
 | .sl _ _ _ _=>true
 | .snap _ _=>true
 | .full _ _=>true
 | _=>false
def g8 (x:AV) (h:ae) (K:AV→Prop):Prop:=
 if zr x=true then (match ct h 1 x with
  | some (_,xs)=>(match yI xs with|some l=>K (S ⟨l.toArray⟩)|none=>False)
  | none=>False) else False
theorem VA {x:AV}{v:Value}(hx:Rep G x v) (hr:zr x=true):∃ a l c,v=.slice a l c:=by
 cases x<;>simp[zr]at hr<;>simp only[Rep]at hx
 ·obtain⟨b,o,c,ad,_,_,_,_,rfl⟩:=hx;exact⟨_,_,_,rfl⟩
 ·rcases hx with ⟨_,_,_,rfl⟩|⟨b,o,c,_,rfl,_⟩<;>exact⟨_,_,_,rfl⟩
 ·rcases hx with ⟨_,_,_,rfl⟩|⟨b,o,rfl,_⟩<;>exact⟨_,_,_,rfl⟩
theorem Mk (s:Sim G h w) {src dst e:TypeId}(hs:P.underlying src=some (.slice e)) (he:P.underlying e=some (.int .u8)) (hd:P.underlying dst=some .string) {x:AV}{v:Value}(hx:Rep G x v) {K:AV→Prop}(k:g8 x h K):
  Yl P G w (convert src dst v) K:=by
 unfold g8 at k
 split at k
 ·rename_i hr
  split at k
  ·rename_i m xs hxs
   split at k
   ·rename_i l hl
    obtain⟨vs,q1,q2,q3,q4⟩:=n5 (P:=P) s hx hxs
    obtain⟨ns,rfl,rfl⟩:=Ey q2 hl
    obtain⟨a,len,c,rfl⟩:=VA hx hr
    refine⟨_,.string ⟨(ns.map fun n=>UInt8.ofNat n.toNat).toArray⟩,?_,by simp[Rep,Value.oneCell'],k⟩
    rw[run_convert_bytes_string w src dst e a len c hs he hd]
    have hlen:len=m:=by simpa [Builtin.lenOf] using q3
    subst hlen
    cases a with
    | none=>
      have:ns=[]:=by
       simp[Builtin.firstCells]at q4
       exact q4.symm ▸ rfl
      subst this
      simp[Conv.bytesToString];rfl
    | some a=>
      have hlc:(loadCells a len).run P w=.ok (ns.map (Value.int .u8)).toArray w:=by
       simpa [Builtin.firstCells] using q4
      rw[run_bytesToString w a len c ns hlc,foldl_push_bytes]
      congr 2
      apply ByteArray.ext
      simp[ByteArray.empty,ByteArray.emptyWithCapacity]
      rfl
   ·exact k.elim
  ·exact k.elim
 ·exact k.elim
def ky (x:AV) (h:ae) (K:QT):Prop:=
 match x with
 | .lit (.string s)=>K (.sl h.length 0 s.size 1) (h++[.cells (s.data.toList.map fun b=>.lit (.int .u8 b.toNat))])
 | _=>False
theorem Ny (s:Sim G h w) {src dst e:TypeId}(hs:P.underlying src=some .string) (hd:P.underlying dst=some (.slice e)) (he:P.underlying e=some (.int .u8)) {x:AV}{v:Value}(hx:Rep G x v) {K:QT}(k:ky x h K):
  Ye P G h w (convert src dst v) K:=by
 unfold ky at k
 split at k
 ·rename_i str
  simp only[Rep]at hx
  obtain⟨rfl,_⟩:=hx
  obtain⟨sd,evd⟩:=s.drawn (w.drawn+1)
  have hge:str.size≤grownCap w str.size 0 e:=by simp only[grownCap,Question.cut];omega
  have hrun:=run_bytes_of_string (P:=P) w src dst e str hs hd he
  generalize grownCap w str.size 0 e=c at hge hrun
  have hsz:(bytesRow str c).size=c:=by
   have:str.data.size=str.size:=rfl
   simp only[bytesRow,Array.size_append,Array.size_map,Array.size_replicate];omega
  generalize hC:bytesRow str c=C at hrun hsz
  have x:ObjAt (G.add h.length (w.drew.heap.size,0) c) (w.drew.alloc (.cells C e (C.size,C.size+1))) h.length (.cells (str.data.toList.map fun b=>.lit (.int .u8 b.toNat))):=by
   refine⟨w.heap.size,0,C,e,C.size,C.size+1,by simp[Gh.add],?_,by omega,?_,?_,?_⟩
   ·show (w.heap.push _)[w.heap.size]?=_
    simp
   ·simp only[Gh.add,if_true,List.length_map,Array.length_toList];exact hge
   ·simp only[Gh.add,if_true,hsz];omega
   ·intro j a ha
    rw[List.getElem?_map]at ha
    cases hj:str.data.toList[j]? with
    | none=>rw[hj]at ha;cases ha
    | some b=>
      rw[hj]at ha
      simp only[Option.map_some,Option.some.injEq]at ha
      subst ha
      have hlt:j<str.data.toList.length:=(List.getElem?_eq_some_iff.1 hj).1
      refine⟨.int .u8 b.toNat,?_,by simp[Rep,Value.oneCell']⟩
      rw[← hC,Nat.zero_add]
      unfold bytesRow
      rw[Array.getElem?_append_left (by simpa using hlt)]
      have:str.data[j]?=some b:=by simpa using hj
      simp[this]
  obtain⟨s',ev⟩:=ln sd (.cells C e (C.size,C.size+1)) _ c x
  refine⟨_,_,_,_,_,hrun,?_,k,s',evd.trans ev⟩
  simp only[Rep]
  exact⟨w.heap.size,0,c,0,by simp[Gh.add],by simp[Gh.add],hge,fun _=>rfl,rfl⟩
 ·exact k.elim
def iH (bytes:Nat) (z l c:AV) (h:ae) (K:QT):Prop:=
 match l,c with
 | .lit (.int _ l),.lit (.int _ c)=>(0≤l∧l≤c∧(bytes:Int)*c≤1099511627776∧c≤1099511627776)∧K (.sl h.length 0 l.toNat 1) (h++[.cells (List.replicate c.toNat z)])
 | _,_=>False
theorem Jy (s:Sim G h w) {t e:TypeId}{i:TypeInfo}{z:Value}(ht:P.underlying t=some (.slice e)) (hi:P.info? e=some i) (hz:i.zero=some z) (h1:i.size=1) (hzo:z.oneCell'=true) {l c:AV}{lv cv:Value}(hl:Rep G l lv) (hc:Rep G c cv) {K:QT}
  (k:iH i.bytes (Ih z) l c h K):Ye P G h w (Instr.makeSlice t lv cv) K:=by
 unfold iH at k
 split at k
 ·rename_i kl l' kc c'
  obtain⟨⟨q1,q2,q3,q4⟩,k⟩:=k
  simp only[Rep]at hl hc
  obtain⟨rfl,_⟩:=hl
  obtain⟨rfl,_⟩:=hc
  have hrun:=run_make (P:=P) w t e i z ht hi hz kl kc l' c' q1 q2 (by omega) (by omega)
  rw[h1,Nat.mul_one]at hrun
  have hcells:∀ j,j<c'.toNat→(madeCells z.cells c'.toNat)[j]?=some z:=fun j hj=>by
   simp[madeCells,hj,vi hzo,Nat.mod_one]
  have x:ObjAt (G.add h.length (w.heap.size,0) c'.toNat) (w.alloc (.cells (madeCells z.cells c'.toNat) e)) h.length (.cells (List.replicate c'.toNat (Ih z))):=by
   refine⟨w.heap.size,0,madeCells z.cells c'.toNat,e,0,0,by simp[Gh.add],?_,by omega,?_,?_,?_⟩
   ·show (w.heap.push _)[w.heap.size]?=_
    simp
   ·simp[Gh.add]
   ·simp[Gh.add,size_madeCells]
   ·intro j a ha
    have hj:j<c'.toNat:=by have:=(List.getElem?_eq_some_iff.1 ha).1;simpa using this
    rw[List.getElem?_replicate,if_pos hj]at ha
    cases ha
    exact⟨z,by rw[Nat.zero_add];exact hcells j hj,Hq _ z hzo⟩
  obtain⟨s',ev⟩:=ln s (.cells (madeCells z.cells c'.toNat) e) _ c'.toNat x
  refine⟨_,_,_,_,_,hrun,?_,k,s',ev⟩
  simp only[Rep]
  exact⟨w.heap.size,0,c'.toNat,0,by simp[Gh.add],by simp[Gh.add],by omega,fun _=>rfl,rfl⟩
 ·exact k.elim
def mw (op:BinOp) (x:AV) (K:AV→Prop):Prop:=
 match op,x with
 | .eql,.map _=>K (B false)
 | .neq,.map _=>K (B true)
 | .eql,.lit (.map none)=>K (B true)
 | .neq,.lit (.map none)=>K (B false)
 | _,_=>False
def mp (op:BinOp) (x:AV) (K:AV→Prop):Prop:=
 match op,x with
 | .eql,.iface _ _=>K (B false)
 | .neq,.iface _ _=>K (B true)
 | .eql,.lit .nilIface=>K (B true)
 | .neq,.lit .nilIface=>K (B false)
 | _,_=>False
def mc (op:BinOp) (x:AV) (K:AV→Prop):Prop:=
 match op,x with
 | .eql,.fn _ _ _=>K (B false)
 | .neq,.fn _ _ _=>K (B true)
 | .eql,.lit .nilFunc=>K (B true)
 | .neq,.lit .nilFunc=>K (B false)
 | _,_=>False
def rh (op:BinOp) (b:Bool) (K:AV→Prop):Prop:=match op with|.eql=>K (B b)|.neq=>K (B !b)|_=>False
def ou (op:BinOp) (x:AV) (K:AV→Prop):Prop:=
 match x with
 | .sl _ _ _ _=>rh op false K
 | .full n _=>if n=0 then rh op true K∧rh op false K else rh op false K
 | .snap n _=>if n=0 then rh op true K∧rh op false K else rh op false K
 | _=>False
theorem aaq (G:Gh) (b:Bool):Rep G (B b) (.bool b):=by simp[Rep,Value.oneCell']
theorem jt {t:TypeId}{x y:Value}{b:Bool}(h:∀ d,(Op.equalIn (d+1) t x y).run P w=.ok b w):(Op.equal t x y).run P w=.ok b w:=h 9999
theorem jr {op:BinOp}{t:TypeId}{xo:Operand}{c x:Value}{b:Bool}{K:AV→Prop}(hg:eqGuard op t xo (.const c) x c=pure ())
  (h1:binOp .eql t x c=(do pure (.bool (← Op.equal t x c)))) (h2:binOp .neq t x c=(do pure (.bool (!(← Op.equal t x c))))) (he:(Op.equal t x c).run P w=.ok b w)
  (k:rh op b K):Yl P G w (do eqGuard op t xo (.const c) x c;binOp op t x c) K:=by
 rw[hg]
 cases op<;>simp only[rh]at k
 case eql=>exact⟨_,.bool b,by simp[h1,he],aaq G _,k⟩
 case neq=>exact⟨_,.bool (!b),by simp[h2,he],aaq G _,k⟩
theorem SV {t kt et:TypeId}(ht:P.underlying t=some (.map kt et)) {op:BinOp}{xo:Operand}{x:AV}{v:Value}(hx:Rep G x v) {K:AV→Prop}(k:mw op x K):Yl P G w (do eqGuard op t xo (.const (.map none)) v (.map none);binOp op t v (.map none)) K:=by
 have hg:∀ r,eqGuard op t xo (.const (.map none)) (.map r) (.map none)=pure ():=fun r=>by unfold eqGuard;split<;>rfl
 unfold mw at k
 split at k<;>try simp only[Rep]at hx
 ·obtain⟨b,_,rfl⟩:=hx
  exact jr (b:=false) (hg _) rfl rfl (jt fun d=>by simp[Op.equalIn,run_underlying ht]) k
 ·obtain⟨b,_,rfl⟩:=hx
  exact jr (b:=false) (hg _) rfl rfl (jt fun d=>by simp[Op.equalIn,run_underlying ht]) k
 ·obtain⟨rfl,_⟩:=hx
  exact jr (b:=true) (hg _) rfl rfl (jt fun d=>by simp[Op.equalIn,run_underlying ht]) k
 ·obtain⟨rfl,_⟩:=hx
  exact jr (b:=true) (hg _) rfl rfl (jt fun d=>by simp[Op.equalIn,run_underlying ht]) k
 ·exact k.elim
theorem Tc {t:TypeId}{ms:Array (String×TypeId)}(ht:P.underlying t=some (.interface ms)) {op:BinOp}{xo:Operand}{x:AV}{v:Value}(hx:Rep G x v) {K:AV→Prop}(k:mp op x K):Yl P G w (do eqGuard op t xo (.const .nilIface) v .nilIface;binOp op t v .nilIface) K:=by
 have hg:∀ u y,eqGuard op t xo (.const .nilIface) (.iface u y) .nilIface=pure ():=fun u y=>by unfold eqGuard;split<;>rfl
 have hg2:eqGuard op t xo (.const .nilIface) .nilIface .nilIface=pure ():=by
  unfold eqGuard
  split<;>first|rfl|(simp;done)
 unfold mp at k
 split at k<;>try simp only[Rep]at hx
 ·obtain⟨y,rfl,_⟩:=hx
  exact jr (b:=false) (hg _ _) rfl rfl (jt fun d=>by simp[Op.equalIn,run_underlying ht]) k
 ·obtain⟨y,rfl,_⟩:=hx
  exact jr (b:=false) (hg _ _) rfl rfl (jt fun d=>by simp[Op.equalIn,run_underlying ht]) k
 ·obtain⟨rfl,_⟩:=hx
  exact jr (b:=true) hg2 rfl rfl (jt fun d=>by simp[Op.equalIn,run_underlying ht]) k
 ·obtain⟨rfl,_⟩:=hx
  exact jr (b:=true) hg2 rfl rfl (jt fun d=>by simp[Op.equalIn,run_underlying ht]) k
 ·exact k.elim
theorem RY {t:TypeId}{a b:Array TypeId}{c:Bool}(ht:P.underlying t=some (.func a b c)) {op:BinOp}{xo:Operand}{x:AV}{v:Value}(hx:Rep G x v) {K:AV→Prop}(k:mc op x K):Yl P G w (do eqGuard op t xo (.const .nilFunc) v .nilFunc;binOp op t v .nilFunc) K:=by
 have hg:∀ x,eqGuard op t xo (.const .nilFunc) x .nilFunc=pure ():=fun x=>by unfold eqGuard;split<;>first|rfl|(split<;>first|rfl|simp_all)
 unfold mc at k
 split at k<;>try simp only[Rep]at hx
 ·obtain⟨y,z,rfl,_⟩:=hx
  exact jr (b:=false) (hg _) rfl rfl (jt fun d=>by simp[Op.equalIn,run_underlying ht]) k
 ·obtain⟨y,z,rfl,_⟩:=hx
  exact jr (b:=false) (hg _) rfl rfl (jt fun d=>by simp[Op.equalIn,run_underlying ht]) k
 ·obtain⟨rfl,_⟩:=hx
  exact jr (b:=true) (hg _) rfl rfl (jt fun d=>by simp[Op.equalIn,run_underlying ht]) k
 ·obtain⟨rfl,_⟩:=hx
  exact jr (b:=true) (hg _) rfl rfl (jt fun d=>by simp[Op.equalIn,run_underlying ht]) k
 ·exact k.elim
theorem Rp {t e:TypeId}(ht:P.underlying t=some (.slice e)) {op:BinOp}{xo:Operand}{x:AV}{v:Value}(hx:Rep G x v) {K:AV→Prop}(k:ou op x K):Yl P G w (do eqGuard op t xo (.const (.slice none 0 0)) v (.slice none 0 0);binOp op t v (.slice none 0 0)) K:=by
 have hg:∀ a b c,eqGuard op t xo (.const (.slice none 0 0)) (.slice a b c) (.slice none 0 0)=pure ():=fun a b c=>by unfold eqGuard;split<;>rfl
 have some_ok:∀ (a:Addr) (l c:Nat),rh op false K→Yl P G w (do eqGuard op t xo (.const (.slice none 0 0)) (.slice (some a) l c) (.slice none 0 0);binOp op t (.slice (some a) l c) (.slice none 0 0)) K:=fun a l c k=>
  jr (b:=false) (hg _ _ _) rfl rfl (jt fun d=>by simp[Op.equalIn,run_underlying ht]) k
 have none_ok:rh op true K→Yl P G w (do eqGuard op t xo (.const (.slice none 0 0)) (.slice none 0 0) (.slice none 0 0);binOp op t (.slice none 0 0) (.slice none 0 0)) K:=fun k=>
  jr (b:=true) (hg _ _ _) rfl rfl (jt fun d=>by simp[Op.equalIn,run_underlying ht]) k
 unfold ou at k
 split at k<;>try simp only[Rep]at hx
 ·obtain⟨b,o,c,ad,_,_,_,_,rfl⟩:=hx;exact some_ok _ _ _ k
 ·rcases hx with ⟨rfl,_,za,rfl⟩|⟨b,o,rfl,_⟩
  ·rw[if_pos rfl]at k
   cases za with
   | none=>exact none_ok k.1
   | some za=>exact some_ok _ _ _ k.2
  ·refine some_ok _ _ _ ?_
   split at k
   ·exact k.2
   ·exact k
 ·rcases hx with ⟨rfl,_,za,rfl⟩|⟨b,o,c,_,rfl,_⟩
  ·rw[if_pos rfl]at k
   cases za with
   | none=>exact none_ok k.1
   | some za=>exact some_ok _ _ _ k.2
  ·refine some_ok _ _ _ ?_
   split at k
   ·exact k.2
   ·exact k
 ·exact k.elim
end
end
section
variable [Tabs]
section
variable {P:Program}{G:Gh}{h:ae}{w:World}
def Z2:TypeDesc→AV→AV→Option Bool
 | .bool,.lit (.bool a),.lit (.bool b)=>some (a==b)
 | .int _,.lit (.int j a),.lit (.int k b)=>if j=k then some (a==b) else none
 | .string,.lit (.string a),.lit (.string b)=>some (a==b)
 | _,_,_=>none
def qh:List TypeDesc→List AV→List AV→Option Bool
 | [],[],[]=>some true
 | d::ds,a::az,b::bs=>match Z2 d a b with
   | some x=>(match qh ds az bs with|some y=>some (x&&y)|none=>none)
   | none=>none
 | _,_,_=>none
def Fw (op:BinOp) (ds:List TypeDesc) (x y:AV) (K:AV→Prop):Prop:=
 match x,y with
 | .agg az,.agg bs=>(match qh ds az bs with|some b=>rh op b K|none=>False)
 | _,_=>False
def wZ (P:Program):List Field→Nat→Option (List TypeDesc)
 | [],_=>some []
 | f :: fs, k => if (f.offset == k && f.name != "_") = true then (match P.underlying f.type with
   | some .bool=>(wZ P fs (k+1)).map (.bool::·)
   | some (.int j)=>(wZ P fs (k+1)).map (.int j::·)
   | some .string=>(wZ P fs (k+1)).map (.string::·)
   | _=>none) else none
theorem aaC {d:TypeDesc}{a b:AV}{x y:Value}{r:Bool}(hx:Rep G a x) (hy:Rep G b y) (h:Z2 d a b=some r) {t:TypeId}(ht:P.underlying t=some d) (n:Nat):(Op.equalIn (n+1) t x y).run P w=.ok r w:=by
 unfold Z2 at h
 split at h
 ·simp only[Rep]at hx hy
  obtain⟨rfl,_⟩:=hx
  obtain⟨rfl,_⟩:=hy
  cases h
  simp[Op.equalIn,run_underlying ht]
 ·simp only[Rep]at hx hy
  obtain⟨rfl,_⟩:=hx
  obtain⟨rfl,_⟩:=hy
  split at h
  ·rename_i hk
   cases h
   subst hk
   simp[Op.equalIn,run_underlying ht]
  ·cases h
 ·simp only[Rep]at hx hy
  obtain⟨rfl,_⟩:=hx
  obtain⟨rfl,_⟩:=hy
  cases h
  simp[Op.equalIn,run_underlying ht]
 ·cases h
theorem OV {t:TypeId}{d:TypeDesc}(ht:P.underlying t=some d) (hd:mZ d=false) {cs:Array Value}{k:Nat}{v:Value}(h:cs[k]?=some v):(part t cs k).run P w=.ok v w:=by
 simp[part,ue ht,hd,h]
theorem H1 (n:Nat):∀ (fs:List Field) (k:Nat) (ds:List TypeDesc) (az bs:List AV) (xs ys:Array Value) (r:Bool),wZ P fs k=some ds→RepL G az (xs.toList.drop k)→RepL G bs (ys.toList.drop k)→qh ds az bs=some r→
  (Op.eqFields (n+1) xs ys fs).run P w=.ok r w
 | [],k,ds,az,bs,xs,ys,r,hf,hx,hy,h=>by
   simp only[wZ,Option.some.injEq]at hf
   subst hf
   unfold qh at h
   split at h
   ·cases h;simp[Op.eqFields]
   ·rename_i hn;cases hn
   ·cases h
 | f::fs,k,ds,az,bs,xs,ys,r,hf,hx,hy,h=>by
   simp only[wZ]at hf
   split at hf
   ·rename_i hc
    simp only[Bool.and_eq_true,beq_iff_eq,bne_iff_ne,ne_eq]at hc
    have key:∀ (d:TypeDesc),P.underlying f.type=some d→mZ d=false→(wZ P fs (k+1)).map (d::·)=some ds→(Op.eqFields (n+1) xs ys (f::fs)).run P w=.ok r w:=by
     intro d hd hag hm
     cases hfs:wZ P fs (k+1) with
     | none=>rw[hfs]at hm;cases hm
     | some ds'=>
       rw[hfs]at hm
       simp only[Option.map_some,Option.some.injEq]at hm
       subst hm
       unfold qh at h
       split at h
       ·rename_i hn;cases hn
       ·rename_i d' ds2 a az' b bs' hn
        cases hn
        split at h
        ·rename_i x hx1
         split at h
         ·rename_i y hy1
          cases h
          simp only[RepL]at hx hy
          obtain⟨v,vs,e1,r1,r2⟩:=hx
          obtain⟨u,us,e2,r3,r4⟩:=hy
          have hv:xs[k]?=some v:=by have:=congrArg (·[0]?) e1;simpa using this
          have hu:ys[k]?=some u:=by have:=congrArg (·[0]?) e2;simpa using this
          have hvs:vs=xs.toList.drop (k+1):=by have:=congrArg List.tail e1;simpa using this.symm
          have hus:us=ys.toList.drop (k+1):=by have:=congrArg List.tail e2;simpa using this.symm
          have ih:=H1 n fs (k+1) ds' az' bs' xs ys y hfs (hvs ▸ r2) (hus ▸ r4) hy1
          simp only[Op.eqFields,Sem.run_bind,Sem.run_ite,hc.1]
          rw[if_pos (by simpa using hc.2)]
          simp only[OV hd hag hv,OV hd hag hu,Result.andThen_ok,aaC r1 r3 hx1 hd n]
          cases x
          ·simp
          ·simpa using ih
         ·cases h
        ·cases h
       ·cases h
    split at hf
    ·exact key _ ‹_› rfl hf
    ·exact key _ ‹_› rfl hf
    ·exact key _ ‹_› rfl hf
    ·cases hf
   ·cases hf
theorem aaE {t:TypeId}{fs:Array Field}{ds:List TypeDesc}(ht:P.underlying t=some (.struct fs)) (hf:wZ P fs.toList 0=some ds) (hp:P.stoodInHeld t=false) (hm:P.eqGuardType P.depth t=false) {op:BinOp}{xo yo:Operand}{x y:AV}{a b:Value}(hx:Rep G x a) (hy:Rep G y b)
  {K:AV→Prop} (k:Fw op ds x y K):Yl P G w (do eqGuard op t xo yo a b;binOp op t a b) K:=by
 unfold Fw at k
 split at k
 ·rename_i az bs
  split at k
  ·rename_i r hr
   simp only[Rep]at hx hy
   obtain⟨vs,rfl,hx⟩:=hx
   obtain⟨us,rfl,hy⟩:=hy
   have hfo:P.fieldsOf t=fs:=by simp[Program.fieldsOf,ht]
   have he:∀ n,(Op.equalIn (n+2) t (.agg vs.toArray) (.agg us.toArray)).run P w=.ok r w:=fun n=>by
    rw[run_equalIn_struct w (n+1) t _ _ (by rw[hfo];exact ht) hp,hfo]
    exact H1 n _ 0 ds az bs _ _ r hf (by simpa using hx) (by simpa using hy) hr
   have hg:=run_eqGuard_agg (P:=P) w op t xo yo vs.toArray us.toArray hm
   cases op<;>simp only[rh]at k
   case eql=>exact⟨_,.bool r,by rw[Sem.run_bind,hg,Result.andThen_ok,run_eql_struct,he 9998];rfl,aaq G _,k⟩
   case neq=>exact⟨_,.bool (!r),by rw[Sem.run_bind,hg,Result.andThen_ok,run_neq_struct,he 9998];rfl,aaq G _,k⟩
  ·exact k.elim
 ·exact k.elim
end
end
section
variable [Tabs]
def zC (v:AV) (K:AV→Prop):Prop:=match v with|.lit (.string s)=>K (I s.size)|_=>False
def zY (v:AV) (K:AV→Prop):Prop:=match v with|.sl _ _ len _=>K (I len)|.snap n _=>K (I n)|.full n _=>K (I n)|_=>False
def yk (v:AV) (h:ae) (K:AV→Prop):Prop:=match v with|.map i=>(match h[i]? with|some (.amap es _)=>K (I es.length)|_=>False)|_=>False
def ac2 (v:AV) (h:ae) (K:QT):Prop:=v.isTup=false∧X4 v.cells h K
structure ai (op:BinOp) (x y:AV) (K:AV→Prop):Prop where
 mk::(out:Fb op x y K)
structure Ef (op:BinOp) (x y:AV) (K:AV→Prop):Prop where
 mk::(out:xE op x y K)
structure Fa (op:BinOp) (x y:AV) (K:AV→Prop):Prop where
 mk::(out:yd op x y K)
structure qUn (op:UnOp) (x:AV) (K:AV→Prop):Prop where
 mk::(out:pUn op x K)
structure ck (d:IntKind) (x:AV) (K:AV→Prop):Prop where
 mk::(out:mO d x K)
structure rS (d:FloatKind) (x:AV) (K:AV→Prop):Prop where
 mk::(out:mP d x K)
structure yW (x:AV) (K:AV→Prop):Prop where
 mk::(out:mo x K)
structure aE (x:AV) (K:AV→Prop):Prop where
 mk::(out:Jb x K)
structure ab (n:Nat) (x:AV) (K:AV→Prop):Prop where
 mk::(out:fA n x K)
structure ap (n:Nat) (x:AV) (h:ae) (K:AV→Prop):Prop where
 mk::(out:nB n x h K)
structure af (x:AV) (h:ae) (K:AV→Prop):Prop where
 mk::(out:mK x h K)
structure Dp (o n:Nat) (x:AV) (K:AV→Prop):Prop where
 mk::(out:qD o n x K)
structure Dc (o:Nat) (x:AV) (K:AV→Prop):Prop where
 mk::(out:qO o x K)
structure bj (x i:AV) (K:AV→Prop):Prop where
 mk::(out:lx x i K)
structure an (n:Nat) (x i:AV) (K:AV→Prop):Prop where
 mk::(out:dB n x i K)
structure cg (m n:Nat) (x i:AV) (K:AV→Prop):Prop where
 mk::(out:cT m n x i K)
structure bl (x:AV) (a b:Option AV) (K:AV→Prop):Prop where
 mk::(out:jl x a b K)
structure lu (n:Nat) (x:AV) (a b:Option AV) (K:AV→Prop):Prop where
 mk::(out:iC n x a b K)
structure CJ (x:AV) (K:AV→Prop):Prop where
 mk::(out:mB x K)
structure bJ (x:AV) (K:AV→Prop):Prop where
 mk::(out:zC x K)
structure aX (x:AV) (K:AV→Prop):Prop where
 mk::(out:zY x K)
structure CK (x:AV) (h:ae) (K:AV→Prop):Prop where
 mk::(out:yk x h K)
structure am (i:Nat) (x:AV) (K:AV→Prop):Prop where
 mk::(out:iL i x K)
structure CQ (x y:AV) (K:AV→Prop):Prop where
 mk::(out:FI x y K)
structure GD (x y:AV) (K:AV→Prop):Prop where
 mk::(out:FJ x y K)
structure xj (t:TypeId) (x:AV) (K:AV→Prop):Prop where
 mk::(out:Dl t x K)
structure ay (z:List AV) (ps:List (Nat×Nat×AV)) (K:AV→Prop):Prop where
 mk::(out:pr z ps K)
structure ao (n m:Nat) (vs:List AV) (K:AV→Prop):Prop where
 mk::(out:ie n m vs K)
structure cu (cs:List AV) (h:ae) (K:QT):Prop where
 mk::(out:X4 cs h K)
structure fe (v:AV) (h:ae) (K:QT):Prop where
 mk::(out:ac2 v h K)
structure ak (n:Nat) (x y:AV) (h:ae) (K:ae→Prop):Prop where
 mk::(out:uY n x y h K)
structure bg (n m:Nat) (x y:AV) (h:ae) (K:QT):Prop where
 mk::(out:eC n m x y h K)
end
section
variable [Tabs]
section
variable {P:Program}{G:Gh}{h:ae}{w:World}
def UpV (P:Program) (N:Value→World→Prop):Result Next→Prop
 | .ok (.value v) w'=>N v w'
 | .ok .skip w'=>N undef w'
 | .ok (.enter f args) w'=>Calls P f args w' fun e w''=>∃ v,e=.returned v∧N v w''
 | _=>False
theorem EB {o:Oper}{a:Act}{next:Act→World→Prop}{Q:Exit→Act→World→Prop}{r:Result Next}(k:UpV P (fun v w'=>next (a.put o.dst v) w') r):o.upon P a next Q r:=by
 unfold UpV at k
 split at k
 ·exact k
 ·exact k
 ·refine Calls.mono k fun e w'' ⟨v,he,hn⟩=>?_
  subst he
  exact hn
 ·exact k.elim
def N0 (G:Gh) (h:ae) (w:World) (K:QT) (v:Value) (w':World):Prop:=∃ r h' G',Rep G' r v∧K r h'∧Sim G' h' w'∧Evo G h w G' h' w'
theorem bd (s:Sim G h w) {m:Sem Value}{K:QT}(k:Yl P G w m fun r=>K r h):UpV P (N0 G h w K) ((do pure (.value (← m)):Sem Next).run P w):=by
 obtain⟨r,v,h1,h2,h3⟩:=k
 simp only[Sem.run_bind,h1,Result.andThen_ok,Sem.run_pure]
 exact⟨r,h,G,h2,h3,s,Evo.refl _ _ _⟩
theorem gW {m:Sem Value}{K:QT}(k:Ye P G h w m K):UpV P (N0 G h w K) ((do pure (.value (← m)):Sem Next).run P w):=by
 obtain⟨r,v,h',G',w',h1,h2,h3,h4,h5⟩:=k
 simp only[Sem.run_bind,h1,Result.andThen_ok,Sem.run_pure]
 exact⟨r,h',G',h2,h3,h4,h5⟩
def FV (P : Program) (f : FuncId) : Prop := ∃ fn, P.funcs[f]? = some fn ∧ (fn.name == "runtime.NumGoroutine") = false ∧ fn.body.isNone = false
structure ACall (P:Program) (f:FuncId) (args:List AV) (h:ae) (K:QT):Prop where
 body:FV P f
 calls:ACalls P f args h K
def va (P:Program) (v:AV) (args:List AV) (h:ae) (K:QT):Prop:=
 match v with
 | .fn (.func f) fi ca=>ACall P f (fi++args++ca) h K
 | _=>False
theorem ACall.mono {f:FuncId}{args:List AV}{K K':QT}(c:ACall P f args h K) (hk:∀ r h',K r h'→K' r h'):ACall P f args h K':=⟨c.1,c.2.mono hk⟩
theorem aal (s:Sim G h w) {v:AV}{args:List AV}{x:Value}{ys:Array Value}{K:QT}(hx:Rep G v x) (hy:RepL G args ys.toList) (k:va P v args h K):
  UpV P (N0 G h w K) ((do let d ← Deferred.ofValue x ys;invoke d.target d.args:Sem Next).run P w):=by
 unfold va at k
 split at k
 ·rename_i f fi ca
  obtain⟨⟨fn,h1,h2,h3⟩,k⟩:=k
  simp only[Rep]at hx
  obtain⟨vs,ws,rfl,hv,hw⟩:=hx
  simp only[Deferred.ofValue,Sem.run_bind,Sem.run_pure,Result.andThen_ok,invoke,callFunc,run_program,h1,h2,h3,Bool.false_eq_true,if_false]
  have:=k G w _ s ((hv.append hy).append hw)
  have e:(vs++ys.toList++ws).toArray=vs.toArray++ys++ws.toArray:=by
   apply Array.toList_inj.1;simp
  rw[e]at this
  exact this.mono fun e w'' ⟨r,v,h',G',a,b,c,d,ev⟩=>⟨v,a,r,h',G',b,c,d,ev⟩
 ·exact k.elim
def eE (a b:Option AV) (K:AV→AV→Prop):Prop:=bW a fun x=>bW b fun y=>K x y
def d6 (a:Option (List AV)) (K:List AV→Prop):Prop:=match a with|some l=>K l|none=>False
def Fd (env:Env):Option Operand→Option (Option AV)
 | none=>some none
 | some x=>match opv env x with|some v=>some (some v)|none=>none
def BZ (a:Option (Option AV)) (K:Option AV→Prop):Prop:=match a with|some l=>K l|none=>False
def xO (P:Program) (t:TypeId) (is:List Nat) (vs:List AV) (K:AV→Prop):Prop:=
 match P.underlying t,P.info? t with
 | some (.struct fs),some i=>(match i.zero,jP P fs.toList with
   | some z,some l=>if okV z then (match AJ (fun j=>l[j]?) (is.zip vs) with|some qs=>ay (ofV z).cells qs K|none=>False) else False
   | _,_=>False)
 | _,_=>False
def ig (P:Program) (t:TypeId) (n:Nat) (is:List Nat) (vs:List AV) (K:AV→Prop):Prop:=
 match P.underlying t with
 | some (.slice e)=>(match P.info? e with
   | some i=>(match i.zero with
     | some _=>if (is==List.range n&&decide (n*i.size≤16777216))=true then ao n i.size vs K else False
     | none=>False)
   | none=>False)
 | _=>False
def kY (P:Program) (t:TypeId) (v:AV) (h:ae) (K:AV→Prop):Prop:=
 match P.underlying t,P.info? t with
 | some d,some i=>if mZ d=true then ap i.size v h K else af v h K
 | _,_=>False
def Qn (P:Program) (op:BinOp) (t:TypeId) (x y:AV) (K:AV→Prop):Prop:=
 match P.underlying t with
 | some .bool=>Ef op x y K
 | some (.pointer _)=>Fa op x y K
 | some (.int _)=>ai op x y K
 | some .string=>ai op x y K
 | some (.float _)=>ai op x y K
 | _=>False
def ES (P:Program) (s d:TypeId) (x:AV) (K:AV→Prop):Prop:=
 match P.underlying s,P.underlying d with
 | some (.int _),some (.int k)=>ck k x K
 | some (.int _),some (.float k)=>rS k x K
 | some .string,some .string=>yW x K
 | _,_=>False
def nU (P:Program) (t:TypeId) (x:AV) (lo hi mx:Option AV) (K:AV→Prop):Prop:=
 match P.underlying t,mx with
 | some .string,none=>bl x lo hi K
 | some (.slice e),none=>(match P.info? e with|some i=>lu i.size x lo hi K|none=>False)
 | some (.slice e),some (.lit (.int _ 0))=>(match P.info? e,lo,hi with|some _,none,some (.lit (.int _ 0))=>CJ x K|_,_,_=>False)
 | _,_=>False
def oc (P:Program) (t:TypeId) (x:AV) (f:Nat) (K:AV→Prop):Prop:=
 match P.underlying t with
 | some (.struct fs)=>(match fs[f]? with
   | some fd=>(match P.info? fd.type with|some i=>if i.size=0 then False else ab fd.offset x K|none=>False)
   | none=>False)
 | _=>False
def EM (P:Program) (t:TypeId) (off:Nat) (x:AV) (K:AV→Prop):Prop:=
 match P.underlying t,P.info? t with
 | some d,some i=>if mZ d=true then Dp off i.size x K else Dc off x K
 | _,_=>False
def xg (P:Program) (t:TypeId) (x:AV) (f:Nat) (K:AV→Prop):Prop:=
 match P.underlying t with
 | some (.struct fs)=>(match fs[f]? with|some fd=>EM P fd.type fd.offset x K|none=>False)
 | _=>False
def eF (P:Program) (t:TypeId) (x i:AV) (K:AV→Prop):Prop:=
 match P.underlying t with
 | some (.slice e)=>(match P.info? e with|some ei=>an ei.size x i K|none=>False)
 | some (.array n e)=>(match P.info? e with|some ei=>cg n ei.size x i K|none=>False)
 | _=>False
def C8 (P:Program) (t:TypeId) (x i:AV) (K:AV→Prop):Prop:=
 match P.underlying t with
 | some .string=>bj x i K
 | _=>False
def Dw (P:Program) (t:TypeId) (v:AV) (h:ae) (K:AV→Prop):Prop:=
 match P.underlying t with
 | some .string=>bJ v K
 | some (.slice _)=>aX v K
 | some (.map _ _)=>CK v h K
 | _=>False
theorem aaz {t:TypeId}{v:AV}{K:AV→Prop}(k:Dw P t v h K):∃ d,P.underlying t=some d∧HC d v=true∧acl v h K:=by
 unfold Dw at k
 split at k
 ·refine⟨_,‹_›,?_⟩
  replace k:=k.out;unfold zC at k;split at k
  ·exact⟨rfl,k⟩
  ·exact k.elim
 ·refine⟨_,‹_›,?_⟩
  replace k:=k.out;unfold zY at k;split at k
  ·exact⟨rfl,k⟩
  ·exact⟨rfl,k⟩
  ·exact⟨rfl,k⟩
  ·exact k.elim
 ·refine⟨_,‹_›,?_⟩
  replace k:=k.out;unfold yk at k;split at k
  ·exact⟨rfl,k⟩
  ·exact k.elim
 ·exact k.elim
def X9 (i:TypeInfo) (d2:TypeDesc):Bool:=
 (match i.zero with|some z=>z.cells.size==i.size|none=>false)&&decide (0<i.bytes)&&(match d2 with|.int _=>false|_=>true)
def B5 (P:Program) (t t2:TypeId) (x y:AV) (h:ae) (K:QT):Prop:=
 match P.underlying t,P.underlying t2 with
 | some (.slice e),some d2=>(match P.info? e with
   | some i=>if X9 i d2=true then bg i.size i.bytes x y h K else False
   | none=>False)
 | _,_=>False
def aae (P:Program) (t:TypeId) (h:ae) (K:QT):Prop:=
 match P.info? t with
 | some i=>(match i.zero with|some z=>if okV z=true then cu (ofV z).cells h K else False|none=>False)
 | none=>False
def Mn (P:Program) (t:TypeId) (x u:AV) (h:ae) (K:ae→Prop):Prop:=
 match P.info? t with
 | some i=>ak i.size x u h K
 | none=>False
def D9 (P:Program) (t:TypeId) (x:AV) (K:AV→Prop):Prop:=
 match P.underlying t with
 | some (.interface _)=>False
 | some _=>xj t x K
 | none=>False
def yq (P:Program) (env:Env) (h:ae) (o:Oper) (K:QT):Prop:=
 match o.op with
 | .move x=>bW (opv env x) fun v=>K v h
 | .assign x=>bW (opv env x) fun v=>K v h
 | .pick c a b=>bW (opv env c) fun cv=>eE (opv env a) (opv env b) fun av bv=>ifB cv (K av h) (K bv h)
 | .alloc e=>aae P e h K
 | .box _ x=>bW (opv env x) fun v=>fe v h K
 | .build t ps=>d6 (lq env (ps.toList.map (·.2))) fun vs=>xO P t (ps.toList.map (·.1)) vs fun r=>K r h
 | .buildSlice t n ps=>d6 (lq env (ps.toList.map (·.2))) fun vs=>ig P t n (ps.toList.map (·.1)) vs fun r=>K r h
 | .load t x=>bW (opv env x) fun v=>kY P t v h fun r=>K r h
 | .store t x u=>eE (opv env x) (opv env u) fun v y=>Mn P t v y h fun h'=>K (.tup []) h'
 | .nilCheck x=>bW (opv env x) fun v=>aE v fun r=>K r h
 | .binOp op t x y _=>eE (opv env x) (opv env y) fun a b=>Qn P op t a b fun r=>K r h
 | .unOp op _ x=>bW (opv env x) fun a=>qUn op a fun r=>K r h
 | .convert s d x=>bW (opv env x) fun a=>ES P s d a fun r=>K r h
 | .makeInterface t x=>bW (opv env x) fun a=>D9 P t a fun r=>K r h
 | .makeFunc f fi ca=>d6 (lq env fi.toList) fun vs=>d6 (lq env ca.toList) fun ws=>K (.fn f vs ws) h
 | .slice t x lo hi mx=>bW (opv env x) fun a=>BZ (Fd env lo) fun l=>BZ (Fd env hi) fun u=>BZ (Fd env mx) fun m=>nU P t a l u m fun r=>K r h
 | .fieldAddr t x f=>bW (opv env x) fun a=>oc P t a f fun r=>K r h
 | .field t x f=>bW (opv env x) fun a=>xg P t a f fun r=>K r h
 | .indexAddr t x i=>eE (opv env x) (opv env i) fun a b=>eF P t a b fun r=>K r h
 | .index t x i=>eE (opv env x) (opv env i) fun a b=>C8 P t a b fun r=>K r h
 | .extract x i=>bW (opv env x) fun a=>am i a fun r=>K r h
 | .call c=>d6 (lq env c.args.toList) fun vs=>(match c.callee with
   | .value f=>bW (opv env f) fun v=>va P v vs h K
   | .builtin .len=>(match vs,c.argTypes.toList with|[v],[t]=>Dw P t v h fun r=>K r h|_,_=>False)
   | .builtin .append=>(match vs,c.argTypes.toList with|[v,u],[t,t2]=>B5 P t t2 v u h K|_,_=>False)
   | .builtin .max=>(match vs with|[v,u]=>CQ v u fun r=>K r h|_=>False)
   | .builtin .min=>(match vs with|[v,u]=>GD v u fun r=>K r h|_=>False)
   | _=>False)
 | _=>False
theorem aH {o:Option AV}{K:AV→Prop}(k:bW o K):∃ v,o=some v∧K v:=by
 unfold bW at k;split at k
 ·exact⟨_,rfl,k⟩
 ·exact k.elim
theorem dI {o:Option (List AV)}{K:List AV→Prop}(k:d6 o K):∃ v,o=some v∧K v:=by
 unfold d6 at k;split at k
 ·exact⟨_,rfl,k⟩
 ·exact k.elim
theorem tZ {o:Option (Option AV)}{K:Option AV→Prop}(k:BZ o K):∃ v,o=some v∧K v:=by
 unfold BZ at k;split at k
 ·exact⟨_,rfl,k⟩
 ·exact k.elim
theorem Ij {env:Env}{a:Act}(r:EnvRep G env a.tmps) {x:Option Operand}{v:Option AV}(h:Fd env x=some v):nW G v (x.map a.eval):=by
 cases x with
 | none=>simp only[Fd,Option.some.injEq]at h;subst h;trivial
 | some x=>
   simp only[Fd]at h
   split at h
   ·rename_i u hu
    cases h
    exact aP r hu
   ·cases h
theorem RepL.two {x y:AV}{l:List Value}(r:RepL G [x,y] l):∃ a b,l=[a,b]∧Rep G x a∧Rep G y b:=by
 simp only[RepL]at r
 obtain⟨a,_,rfl,h1,b,_,rfl,h2,rfl⟩:=r
 exact⟨a,b,rfl,h1,h2⟩
theorem RepL.single {x:AV}{l:List Value}(r:RepL G [x] l):∃ a,l=[a]∧Rep G x a:=by
 simp only[RepL]at r
 obtain⟨a,_,rfl,h1,rfl⟩:=r
 exact⟨a,rfl,h1⟩
theorem aax (s:Sim G h w) {env:Env}{a:Act}(r:EnvRep G env a.tmps) {o:Oper}{K:QT}(k:yq P env h o K):UpV P (N0 G h w K) ((execOp a.eval o).run P w):=by
 obtain⟨dst,op,ty,pos,after,guard⟩:=o
 cases op<;>simp only[yq]at k
 case move x=>
  obtain⟨v,h1,k⟩:=aH k
  simp only[execOp,Sem.run_pure]
  exact⟨v,h,G,aP r h1,k,s,Evo.refl _ _ _⟩
 case assign x=>
  obtain⟨v,h1,k⟩:=aH k
  simp only[execOp,Sem.run_pure]
  exact⟨v,h,G,aP r h1,k,s,Evo.refl _ _ _⟩
 case pick c x y=>
  obtain⟨cv,h1,k⟩:=aH k
  obtain⟨xv,h2,k⟩:=aH k
  obtain⟨yv,h3,k⟩:=aH k
  have hc:=aP r h1
  unfold ifB at k
  split at k
  ·simp only[Rep]at hc
   simp only[execOp,hc.1,asBool,Sem.run_bind,Sem.run_pure,Result.andThen_ok,if_true]
   exact⟨xv,h,G,aP r h2,k,s,Evo.refl _ _ _⟩
  ·simp only[Rep]at hc
   simp only[execOp,hc.1,asBool,Sem.run_bind,Sem.run_pure,Result.andThen_ok,Bool.false_eq_true,if_false]
   exact⟨yv,h,G,aP r h3,k,s,Evo.refl _ _ _⟩
  ·exact k.elim
 case alloc e=>
  unfold aae at k
  split at k
  ·rename_i i hi
   split at k
   ·rename_i z hz
    split at k
    ·rename_i hzo
     have hzc:RepL G (ofV z).cells z.cells.toList:=(rX G z hzo).cells (by
      unfold ofV Ih;split<;>(try split)<;>rfl)
     obtain⟨r',h',G',q1,q2,q3,q4⟩:=T8 (t:=e) s hzc k.out
     refine gW ⟨r',_,h',G',_,?_,q1,q2,q3,q4⟩
     simp only[Instr.alloc,Sem.run_bind,zeroValue,typeInfo,run_program,Result.andThen_ok,hi,hz,Sem.run_pure,newVar,newRow,run_newObj]
     rfl
    ·exact k.elim
   ·exact k.elim
  ·exact k.elim
 case box e x=>
  obtain⟨v,h1,k⟩:=aH k
  obtain⟨⟨ht,k⟩⟩:=k
  have hv:=(aP r h1).cells ht
  obtain⟨r',h',G',q1,q2,q3,q4⟩:=T8 (t:=e) s hv k
  refine gW ⟨r',_,h',G',_,?_,q1,q2,q3,q4⟩
  simp only[Instr.box,newVar,newRow,Sem.run_bind,run_newObj,Result.andThen_ok,Sem.run_pure]
  rfl
 case build t ps=>
  obtain⟨vs,h1,k⟩:=dI k
  unfold xO at k
  split at k
  ·rename_i fs i ht hi
   split at k
   ·rename_i z l hz hl
    split at k
    ·rename_i hzo
     split at k
     ·rename_i qs hq
      have hr:=jA r h1
      have hlen:vs.length=ps.size:=by have:=hr.length;simpa using this.symm
      refine bd s (UC (ps:=(ps.toList.map (·.1)).zip vs) ht hi hz hzo hl hq ?_ ?_ k.out)
      ·rw[List.map_fst_zip (by simp;omega)]
       simp
      ·rw[List.map_snd_zip (by simp;omega)]
       have e2:(ps.map fun p=>(p.1,a.eval p.2)).toList.map (·.2)=(ps.toList.map (·.2)).map a.eval:=by simp[List.map_map,Function.comp_def]
       rw[e2];exact hr
     ·exact k.elim
    ·exact k.elim
   ·exact k.elim
  ·exact k.elim
 case buildSlice t n ps=>
  obtain⟨vs,h1,k⟩:=dI k
  unfold ig at k
  split at k
  ·rename_i e ht
   split at k
   ·rename_i i hi
    split at k
    ·rename_i z hz
     split at k
     ·rename_i hc
      simp only[Bool.and_eq_true,beq_iff_eq,decide_eq_true_eq]at hc
      have hr:=jA r h1
      have hn:ps.toList.length=n:=by have:=congrArg List.length hc.1;simpa using this
      have e2:(ps.toList.map fun p=>a.eval p.2)=(ps.toList.map (·.2)).map a.eval:=by simp[List.map_map,Function.comp_def]
      obtain⟨r',v,h',G',w',q1,q2,⟨q3,q5⟩,q4⟩:=Iy s (xs:=ps.toList.map fun p=>a.eval p.2) (ps:=ps.map fun p=>(p.1,a.eval p.2)) ht hi hz (by
       apply List.ext_getElem?
       intro j
       simp only[Array.toList_map,List.getElem?_map,List.getElem?_zipIdx]
       rcases Nat.lt_or_ge j ps.toList.length with hj|hj
       ·have e1:=congrArg (·[j]?) hc.1
        simp only[List.getElem?_map,List.getElem?_range (show j<n by omega)]at e1
        rw[List.getElem?_eq_getElem hj]at e1 ⊢
        simp at e1
        simp[e1]
       ·rw[List.getElem?_eq_none hj];rfl) (by rw[e2];exact hr) hc.2 k.out
      subst q5
      exact gW ⟨r',v,_,G',w',q1,q2,q3,q4⟩
     ·exact k.elim
    ·exact k.elim
   ·exact k.elim
  ·exact k.elim
 case load t x=>
  obtain⟨v,h1,k⟩:=aH k
  unfold kY at k
  split at k
  ·rename_i d i ht hi
   split at k
   ·rename_i hd;exact bd s (DR s ht hd hi (aP r h1) k.out)
   ·rename_i hd;exact bd s (C5 s ht (by simpa using hd) (aP r h1) k.out)
  ·exact k.elim
 case store t x u=>
  obtain⟨v,h1,k⟩:=aH k
  obtain⟨y,h2,k⟩:=aH k
  unfold Mn at k
  split at k
  ·rename_i i hi
   obtain⟨h',G',w',q1,q2,q3,q4⟩:=WH s hi (aP r h1) (aP r h2) k.out
   simp only[execOp,Sem.run_bind,q1,Result.andThen_ok,Sem.run_pure]
   exact⟨.tup [],h',G',by simp[Rep,RepL,undef],q2,q3,q4⟩
  ·exact k.elim
 case nilCheck x=>
  obtain⟨v,h1,k⟩:=aH k
  have hv:=aP r h1
  replace k:=k.out
  unfold Jb at k
  split at k
  ·have hv':=hv
   simp only[Rep]at hv
   obtain⟨b,o,_,e⟩:=hv
   simp only[execOp,e,Sem.run_pure]
   exact⟨_,h,G,by rw[← e];exact hv',k,s,Evo.refl _ _ _⟩
  ·have hv':=hv
   simp only[Rep]at hv
   obtain⟨b,o,e,_⟩:=hv
   simp only[execOp,e,Sem.run_pure]
   exact⟨_,h,G,by rw[← e];exact hv',k,s,Evo.refl _ _ _⟩
  ·have hv':=hv
   simp only[Rep]at hv
   obtain⟨vs,ws,e,_,_⟩:=hv
   simp only[execOp,e,Sem.run_pure]
   exact⟨_,h,G,by rw[← e];exact hv',k,s,Evo.refl _ _ _⟩
  ·exact k.elim
 case binOp op t x y yt=>
  obtain⟨v,h1,k⟩:=aH k
  obtain⟨u,h2,k⟩:=aH k
  unfold Qn at k
  split at k
  ·exact bd s (Yj ‹_› (aP r h1) (aP r h2) k.out)
  ·exact bd s (Zx ‹_› (aP r h1) (aP r h2) k.out)
  ·exact bd s (Nt (aP r h1) (aP r h2) k.out)
  ·exact bd s (Nt (aP r h1) (aP r h2) k.out)
  ·exact bd s (Nt (aP r h1) (aP r h2) k.out)
  ·exact k.elim
 case unOp op t x=>
  obtain⟨v,h1,k⟩:=aH k
  exact bd s (abP (aP r h1) k.out)
 case convert sr d x=>
  obtain⟨v,h1,k⟩:=aH k
  unfold ES at k
  split at k
  ·exact bd s (Rh ‹_› ‹_› (aP r h1) k.out)
  ·exact bd s (S5 ‹_› ‹_› (aP r h1) k.out)
  ·exact bd s (SI ‹_› ‹_› (aP r h1) k.out)
  ·exact k.elim
 case makeInterface t x=>
  obtain⟨v,h1,k⟩:=aH k
  unfold D9 at k
  split at k
  ·exact k.elim
  ·rename_i d hd ht
   exact bd s (Wy ht (fun m e=>hd m e) (aP r h1) k.out)
  ·exact k.elim
 case makeFunc f fi ca=>
  obtain⟨vs,h1,k⟩:=dI k
  obtain⟨ws,h2,k⟩:=dI k
  refine bd s ⟨_,_,by simp only[Instr.makeFunc,Sem.run_pure];rfl,?_,k⟩
  simp only[Rep]
  exact⟨fi.toList.map a.eval,ca.toList.map a.eval,by congr 1<;>(apply Array.toList_inj.1;simp),jA r h1,jA r h2⟩
 case slice t x lo hio mx=>
  obtain⟨v,h1,k1⟩:=aH k
  obtain⟨l,h2,k2⟩:=tZ k1
  obtain⟨u,h3,k3⟩:=tZ k2
  obtain⟨m,h4,k4⟩:=tZ k3
  clear k k1 k2 k3
  have hm:=Ij r h4
  have hl:=Ij r h2
  have hu:=Ij r h3
  clear h2 h3 h4
  unfold nU at k4
  split at k4
  ·rename_i ht
   cases mx with
   | some _=>simp[nW]at hm
   | none=>exact bd s (Su ht (aP r h1) hl hu k4.out)
  ·rename_i e ht
   cases mx with
   | some _=>simp[nW]at hm
   | none=>
     split at k4
     ·exact bd s (S9 ht ‹_› (aP r h1) hl hu k4.out)
     ·exact k4.elim
  ·rename_i e k2 ht
   split at k4
   ·rename_i i k1 hinf
    cases mx with
    | none=>simp[nW]at hm
    | some mx=>
      cases lo with
      | some _=>simp[nW]at hl
      | none=>
        cases hio with
        | none=>simp[nW]at hu
        | some hi'=>
          simp only[nW,Option.map_some,Rep]at hu hm
          have:=bd s (Rz (P:=P) ht hinf (aP r h1) k1 k2 k4.out)
          simp only[execOp,Option.map_some,Option.map_none,hu.1,hm.1]
          exact this
   ·exact k4.elim
  ·exact k4.elim
 case fieldAddr t x f=>
  obtain⟨v,h1,k⟩:=aH k
  unfold oc at k
  split at k
  ·rename_i fs ht
   split at k
   ·rename_i fd hfd
    split at k
    ·rename_i i hi
     split at k
     ·exact k.elim
     ·rename_i hz
      exact bd s (JG ht hfd hi hz (aP r h1) k.out)
    ·exact k.elim
   ·exact k.elim
  ·exact k.elim
 case field t x f=>
  obtain⟨v,h1,k⟩:=aH k
  unfold xg at k
  split at k
  ·rename_i fs ht
   split at k
   ·rename_i fd hfd
    unfold EM at k
    have hrun:∀ x:Value,(Instr.field t x f).run P w=(do part fd.type (← asAgg x) fd.offset:Sem Value).run P w:=fun x=>by
     simp only[Instr.field,Sem.run_bind,run_underlying ht,Result.andThen_ok,hfd]
    split at k
    ·rename_i d i hd hi
     split at k
     ·rename_i ha
      obtain⟨r',v',q1,q2,q3⟩:=Vz (P:=P) (w:=w) hd ha hi (aP r h1) k.out
      exact bd s ⟨r',v',by rw[hrun];exact q1,q2,q3⟩
     ·rename_i ha
      obtain⟨r',v',q1,q2,q3⟩:=VE (P:=P) (w:=w) hd (by simpa using ha) (aP r h1) k.out
      exact bd s ⟨r',v',by rw[hrun];exact q1,q2,q3⟩
    ·exact k.elim
   ·exact k.elim
  ·exact k.elim
 case indexAddr t x i=>
  obtain⟨v,h1,k⟩:=aH k
  obtain⟨u,h2,k⟩:=aH k
  unfold eF at k
  split at k
  ·split at k
   ·exact bd s (zq ‹_› ‹_› (aP r h1) (aP r h2) k.out)
   ·exact k.elim
  ·split at k
   ·exact bd s (wX ‹_› ‹_› (aP r h1) (aP r h2) k.out)
   ·exact k.elim
  ·exact k.elim
 case index t x i=>
  obtain⟨v,h1,k⟩:=aH k
  obtain⟨u,h2,k⟩:=aH k
  unfold C8 at k
  split at k
  ·exact bd s (Sn ‹_› (aP r h1) (aP r h2) k.out)
  ·exact k.elim
 case extract x i=>
  obtain⟨v,h1,k⟩:=aH k
  exact bd s (Pq (aP r h1) k.out)
 case call c=>
  obtain⟨vs,h1,kk⟩:=dI k
  clear k
  have hr:=jA r h1
  obtain⟨callee,args,argTypes⟩:=c
  cases callee with
  | value f=>
    simp only at kk
    obtain⟨v,h2,k3⟩:=aH kk
    have:=aal (P:=P) (ys:=args.map a.eval) s (aP r h2) (by simpa using hr) k3
    simpa [execOp,resolve] using this
  | invoke _ _=>exact kk.elim
  | builtin b=>
    cases b<;>simp only at kk<;>try exact kk.elim
    case len=>
     split at kk
     ·rename_i v t hT
      obtain⟨d,hd,hf,kk⟩:=aaz kk
      obtain⟨x,hx,hx2⟩:=hr.single
      have ha:argTypes=#[t]:=by apply Array.toList_inj.1;simpa using hT
      have hargs:args.map a.eval=#[x]:=by apply Array.toList_inj.1;simpa using hx
      subst ha
      obtain⟨r',v',q1,q2,q3⟩:=aa6 (ty:=ty) s hd hx2 hf kk
      simp only[execOp,resolve,Sem.run_bind,Sem.run_pure,Result.andThen_ok,invoke,builtin,hargs,q1]
      exact⟨r',h,G,q2,q3,s,Evo.refl _ _ _⟩
     ·exact kk.elim
    case append=>
     split at kk
     ·rename_i v u t t2 hT
      unfold B5 at kk
      split at kk
      ·rename_i e d2 ht ht2
       split at kk
       ·rename_i i hi
        split at kk
        ·rename_i hok
         obtain⟨x,y,hx,hx2,hx3⟩:=hr.two
         have ha:argTypes=#[t,t2]:=by apply Array.toList_inj.1;simpa using hT
         have hargs:args.map a.eval=#[x,y]:=by apply Array.toList_inj.1;simpa using hx
         subst ha
         simp only[X9,Bool.and_eq_true,decide_eq_true_eq]at hok
         obtain⟨⟨ho1,ho2⟩,ho3⟩:=hok
         split at ho1
         ·rename_i z hz
          have T:F7 P t t2 e i z:=⟨ht,⟨d2,ht2,fun k e=>by subst e;simp at ho3⟩,hi,hz,by simpa using ho1,ho2⟩
          obtain⟨r',v',h',G',w',q1,q2,q3,q4,q5⟩:=Sw (ty:=ty) s T hx2 hx3 kk.out
          simp only[execOp,resolve,Sem.run_bind,Sem.run_pure,Result.andThen_ok,invoke,builtin,hargs,q1]
          exact⟨r',h',G',q2,q3,q4,q5⟩
         ·cases ho1
        ·exact kk.elim
       ·exact kk.elim
      ·exact kk.elim
     ·exact kk.elim
    case max=>
     split at kk
     ·rename_i v u
      obtain⟨x,y,hx,hx2,hx3⟩:=hr.two
      have hargs:args.map a.eval=#[x,y]:=by apply Array.toList_inj.1;simpa using hx
      obtain⟨r',v',q1,q2,q3⟩:=Z5 (P:=P) (w:=w) (ts:=argTypes) (t:=ty) hx2 hx3 kk.out
      simp only[execOp,resolve,Sem.run_bind,Sem.run_pure,Result.andThen_ok,invoke,builtin,hargs,q1]
      exact⟨r',h,G,q2,q3,s,Evo.refl _ _ _⟩
     ·exact kk.elim
    case min=>
     split at kk
     ·rename_i v u
      obtain⟨x,y,hx,hx2,hx3⟩:=hr.two
      have hargs:args.map a.eval=#[x,y]:=by apply Array.toList_inj.1;simpa using hx
      obtain⟨r',v',q1,q2,q3⟩:=ZT (P:=P) (w:=w) (ts:=argTypes) (t:=ty) hx2 hx3 kk.out
      simp only[execOp,resolve,Sem.run_bind,Sem.run_pure,Result.andThen_ok,invoke,builtin,hargs,q1]
      exact⟨r',h,G,q2,q3,s,Evo.refl _ _ _⟩
     ·exact kk.elim
end
end
section
variable [Tabs]
section
variable {P:Program}
theorem Ut {K K':AV→Prop}(hk:∀ v,K v→K' v) (op:BinOp) (x y:AV) (k:Fb op x y K):Fb op x y K':=by
 unfold Fb at *
 (repeat' split at k)<;>first|exact k.elim|simp_all
theorem QS {K K':AV→Prop}(hk:∀ v,K v→K' v) (op:BinOp) (x y:AV) (k:xE op x y K):xE op x y K':=by
 unfold xE at *
 (repeat' split at k)<;>first|exact k.elim|simp_all
theorem RF {K K':AV→Prop}(hk:∀ v,K v→K' v) (op:BinOp) (x y:AV) (k:yd op x y K):yd op x y K':=by
 unfold yd at *
 (repeat' split at k)<;>first|exact k.elim|simp_all
theorem XJ {K K':AV→Prop}(hk:∀ v,K v→K' v) (op:UnOp) (x:AV) (k:pUn op x K):pUn op x K':=by
 unfold pUn at *
 (repeat' split at k)<;>first|exact k.elim|simp_all
theorem MQ {K K':AV→Prop}(hk:∀ v,K v→K' v) (d:IntKind) (x:AV) (k:mO d x K):mO d x K':=by
 unfold mO at *
 (repeat' split at k)<;>first|exact k.elim|simp_all
theorem Mz {K K':AV→Prop}(hk:∀ v,K v→K' v) (d:FloatKind) (x:AV) (k:mP d x K):mP d x K':=by
 unfold mP at *
 (repeat' split at k)<;>first|exact k.elim|simp_all
theorem MP {K K':AV→Prop}(hk:∀ v,K v→K' v) (x:AV) (k:mo x K):mo x K':=by
 unfold mo at *
 (repeat' split at k)<;>first|exact k.elim|simp_all
theorem VU {K K':AV→Prop}(hk:∀ v,K v→K' v) (x:AV) (k:Jb x K):Jb x K':=by
 unfold Jb at *
 (repeat' split at k)<;>first|exact k.elim|simp_all
theorem Ff {K K':AV→Prop}(hk:∀ v,K v→K' v) (n:Nat) (x:AV) (k:fA n x K):fA n x K':=by
 unfold fA at *
 (repeat' split at k)<;>first|exact k.elim|simp_all
theorem N3 {K K':AV→Prop}(hk:∀ v,K v→K' v) (n:Nat) (x:AV) (h:ae) (k:nB n x h K):nB n x h K':=by
 unfold nB at *
 (repeat' split at k)<;>first|exact k.elim|simp_all
theorem O3 {K K':AV→Prop}(hk:∀ v,K v→K' v) (x:AV) (h:ae) (k:mK x h K):mK x h K':=by
 unfold mK at *
 (repeat' split at k)<;>first|exact k.elim|simp_all
theorem PM {K K':AV→Prop}(hk:∀ v,K v→K' v) (o n:Nat) (x:AV) (k:qD o n x K):qD o n x K':=by
 unfold qD at *
 (repeat' split at k)<;>first|exact k.elim|simp_all
theorem Om {K K':AV→Prop}(hk:∀ v,K v→K' v) (o:Nat) (x:AV) (k:qO o x K):qO o x K':=by
 unfold qO at *
 (repeat' split at k)<;>first|exact k.elim|simp_all
theorem Mt {K K':AV→Prop}(hk:∀ v,K v→K' v) (x i:AV) (k:lx x i K):lx x i K':=by
 unfold lx at *
 (repeat' split at k)<;>first|exact k.elim|simp_all
theorem FG {K K':AV→Prop}(hk:∀ v,K v→K' v) (n:Nat) (x i:AV) (k:dB n x i K):dB n x i K':=by
 unfold dB at *
 (repeat' split at k)<;>first|exact k.elim|simp_all
theorem Dr {K K':AV→Prop}(hk:∀ v,K v→K' v) (m n:Nat) (x i:AV) (k:cT m n x i K):cT m n x i K':=by
 unfold cT at *
 (repeat' split at k)<;>first|exact k.elim|simp_all
theorem M4 {K K':AV→Prop}(hk:∀ v,K v→K' v) (x:AV) (a b:Option AV) (k:jl x a b K):jl x a b K':=by
 unfold jl at *
 (repeat' split at k)<;>first|exact k.elim|simp_all
theorem Mf {K K':AV→Prop}(hk:∀ v,K v→K' v) (n:Nat) (x:AV) (a b:Option AV) (k:iC n x a b K):iC n x a b K':=by
 unfold iC at *
 (repeat' split at k)<;>first|exact k.elim|simp_all
theorem Nx {K K':AV→Prop}(hk:∀ v,K v→K' v) (x:AV) (k:mB x K):mB x K':=by
 unfold mB at *
 (repeat' split at k)<;>first|exact k.elim|simp_all
theorem R6 {K K':AV→Prop}(hk:∀ v,K v→K' v) (x:AV) (k:zC x K):zC x K':=by
 unfold zC at *
 (repeat' split at k)<;>first|exact k.elim|simp_all
theorem Se {K K':AV→Prop}(hk:∀ v,K v→K' v) (x:AV) (k:zY x K):zY x K':=by
 unfold zY at *
 (repeat' split at k)<;>first|exact k.elim|simp_all
theorem Rv {K K':AV→Prop}(hk:∀ v,K v→K' v) (x:AV) (h:ae) (k:yk x h K):yk x h K':=by
 unfold yk at *
 (repeat' split at k)<;>first|exact k.elim|simp_all
theorem IW {K K':AV→Prop}(hk:∀ v,K v→K' v) (i:Nat) (x:AV) (k:iL i x K):iL i x K':=by
 unfold iL at *
 (repeat' split at k)<;>first|exact k.elim|simp_all
theorem UR {K K':AV→Prop}(hk:∀ v,K v→K' v) (x y:AV) (k:FI x y K):FI x y K':=by
 unfold FI at *
 split at k
 ·exact hk _ k
 ·exact k.elim
theorem Vs {K K':AV→Prop}(hk:∀ v,K v→K' v) (x y:AV) (k:FJ x y K):FJ x y K':=by
 unfold FJ at *
 split at k
 ·exact hk _ k
 ·exact k.elim
theorem NY {K K':AV→Prop}(hk:∀ v,K v→K' v) (z:List AV) (ps:List (Nat×Nat×AV)) (k:pr z ps K):pr z ps K':=by
 unfold pr at *
 (repeat' split at k)<;>first|exact k.elim|simp_all
theorem tN {K K':AV→Prop}(hk:∀ v,K v→K' v) (op:BinOp) (x y:AV) (k:ai op x y K):ai op x y K':=⟨Ut hk op x y k.out⟩
theorem Ao {K K':AV→Prop}(hk:∀ v,K v→K' v) (op:BinOp) (x y:AV) (k:Ef op x y K):Ef op x y K':=⟨QS hk op x y k.out⟩
theorem Au {K K':AV→Prop}(hk:∀ v,K v→K' v) (op:BinOp) (x y:AV) (k:Fa op x y K):Fa op x y K':=⟨RF hk op x y k.out⟩
theorem Hi {K K':AV→Prop}(hk:∀ v,K v→K' v) (op:UnOp) (x:AV) (k:qUn op x K):qUn op x K':=⟨XJ hk op x k.out⟩
theorem vf {K K':AV→Prop}(hk:∀ v,K v→K' v) (d:IntKind) (x:AV) (k:ck d x K):ck d x K':=⟨MQ hk d x k.out⟩
theorem u4 {K K':AV→Prop}(hk:∀ v,K v→K' v) (d:FloatKind) (x:AV) (k:rS d x K):rS d x K':=⟨Mz hk d x k.out⟩
theorem uP {K K':AV→Prop}(hk:∀ v,K v→K' v) (x:AV) (k:yW x K):yW x K':=⟨MP hk x k.out⟩
theorem DY {K K':AV→Prop}(hk:∀ v,K v→K' v) (x:AV) (k:aE x K):aE x K':=⟨VU hk x k.out⟩
theorem pi {K K':AV→Prop}(hk:∀ v,K v→K' v) (n:Nat) (x:AV) (k:ab n x K):ab n x K':=⟨Ff hk n x k.out⟩
theorem ic {K K':AV→Prop}(hk:∀ v,K v→K' v) (n:Nat) (x:AV) (h:ae) (k:ap n x h K):ap n x h K':=⟨N3 hk n x h k.out⟩
theorem ib {K K':AV→Prop}(hk:∀ v,K v→K' v) (x:AV) (h:ae) (k:af x h K):af x h K':=⟨O3 hk x h k.out⟩
theorem x9 {K K':AV→Prop}(hk:∀ v,K v→K' v) (o n:Nat) (x:AV) (k:Dp o n x K):Dp o n x K':=⟨PM hk o n x k.out⟩
theorem yu {K K':AV→Prop}(hk:∀ v,K v→K' v) (o:Nat) (x:AV) (k:Dc o x K):Dc o x K':=⟨Om hk o x k.out⟩
theorem u2 {K K':AV→Prop}(hk:∀ v,K v→K' v) (x i:AV) (k:bj x i K):bj x i K':=⟨Mt hk x i k.out⟩
theorem iM {K K':AV→Prop}(hk:∀ v,K v→K' v) (n:Nat) (x i:AV) (k:an n x i K):an n x i K':=⟨FG hk n x i k.out⟩
theorem fc {K K':AV→Prop}(hk:∀ v,K v→K' v) (m n:Nat) (x i:AV) (k:cg m n x i K):cg m n x i K':=⟨Dr hk m n x i k.out⟩
theorem u5 {K K':AV→Prop}(hk:∀ v,K v→K' v) (x:AV) (a b:Option AV) (k:bl x a b K):bl x a b K':=⟨M4 hk x a b k.out⟩
theorem ve {K K':AV→Prop}(hk:∀ v,K v→K' v) (n:Nat) (x:AV) (a b:Option AV) (k:lu n x a b K):lu n x a b K':=⟨Mf hk n x a b k.out⟩
theorem uQ {K K':AV→Prop}(hk:∀ v,K v→K' v) (x:AV) (k:CJ x K):CJ x K':=⟨Nx hk x k.out⟩
theorem Ay {K K':AV→Prop}(hk:∀ v,K v→K' v) (x:AV) (k:bJ x K):bJ x K':=⟨R6 hk x k.out⟩
theorem AN {K K':AV→Prop}(hk:∀ v,K v→K' v) (x:AV) (k:aX x K):aX x K':=⟨Se hk x k.out⟩
theorem AB {K K':AV→Prop}(hk:∀ v,K v→K' v) (x:AV) (h:ae) (k:CK x h K):CK x h K':=⟨Rv hk x h k.out⟩
theorem tD {K K':AV→Prop}(hk:∀ v,K v→K' v) (i:Nat) (x:AV) (k:am i x K):am i x K':=⟨IW hk i x k.out⟩
theorem C2 {K K':AV→Prop}(hk:∀ v,K v→K' v) (x y:AV) (k:CQ x y K):CQ x y K':=⟨UR hk x y k.out⟩
theorem C7 {K K':AV→Prop}(hk:∀ v,K v→K' v) (x y:AV) (k:GD x y K):GD x y K':=⟨Vs hk x y k.out⟩
theorem xz {K K':AV→Prop}(hk:∀ v,K v→K' v) (z:List AV) (ps:List (Nat×Nat×AV)) (k:ay z ps K):ay z ps K':=⟨NY hk z ps k.out⟩
theorem DT {K K':AV→Prop}(hk:∀ v,K v→K' v) (n m:Nat) (vs:List AV) (k:ie n m vs K):ie n m vs K':=⟨k.1,hk _ k.2⟩
theorem N5 {K K':ae→Prop}(hk:∀ v,K v→K' v) (n:Nat) (x y:AV) (h:ae) (k:uY n x y h K):uY n x y h K':=by
 unfold uY at *
 (repeat' split at k)<;>first|exact k.elim|exact⟨k.1,hk _ k.2⟩
theorem Me {K K':QT}(hk:∀ v h,K v h→K' v h) (n m:Nat) (x y:AV) (h:ae) (k:eC n m x y h K):eC n m x y h K':=by
 unfold eC at *
 split at k
 ·exact k.elim
 ·split at k
  ·refine⟨k.1,?_⟩
   have k2:=k.2
   split at k2
   ·rename_i h0;rw[if_pos h0];exact hk _ _ k2
   ·rename_i h0;rw[if_neg h0];exact hk _ _ k2
  ·split at k
   ·exact⟨k.1,hk _ _ k.2⟩
   ·exact k.elim
  ·exact k.elim
theorem O8 {K K':QT}(hk:∀ v h,K v h→K' v h) (x:AV) (vs:List AV) (h:ae) (k:va P x vs h K):va P x vs h K':=by
 unfold va at *
 split at k
 ·exact k.mono hk
 ·exact k.elim
theorem bk {K K':AV→Prop}(hk:∀ v,K v→K' v) (o:Option AV) (k:bW o K):bW o K':=by
 unfold bW at *;split at k
 ·exact hk _ k
 ·exact k.elim
theorem fx {K K':List AV→Prop}(hk:∀ v,K v→K' v) (o:Option (List AV)) (k:d6 o K):d6 o K':=by
 unfold d6 at *;split at k
 ·exact hk _ k
 ·exact k.elim
theorem AW {K K':Option AV→Prop}(hk:∀ v,K v→K' v) (o:Option (Option AV)) (k:BZ o K):BZ o K':=by
 unfold BZ at *;split at k
 ·exact hk _ k
 ·exact k.elim
theorem dM {K K':AV→AV→Prop}(hk:∀ v u,K v u→K' v u) (a b:Option AV) (k:eE a b K):eE a b K':=bk (fun _ k=>bk (fun _ k=>hk _ _ k) _ k) _ k
theorem Cn {v:AV}{X Y X' Y':Prop}(hx:X→X') (hy:Y→Y') (k:ifB v X Y):ifB v X' Y':=by
 unfold ifB at *;split at k
 ·exact hx k
 ·exact hy k
 ·exact k.elim
theorem wD {K K':AV→Prop}(hk:∀ v,K v→K' v) (t:TypeId) (x:AV) (k:xj t x K):xj t x K':=⟨hk _ k.out⟩
theorem nQ {K K':AV→Prop}(hk:∀ v,K v→K' v) (n m:Nat) (vs:List AV) (k:ao n m vs K):ao n m vs K':=⟨DT hk _ _ _ k.out⟩
theorem OP {K K':ae→Prop}(hk:∀ v,K v→K' v) (n:Nat) (x y:AV) (h:ae) (k:ak n x y h K):ak n x y h K':=⟨N5 hk _ _ _ _ k.out⟩
theorem My {K K':QT}(hk:∀ v h,K v h→K' v h) (n m:Nat) (x y:AV) (h:ae) (k:bg n m x y h K):bg n m x y h K':=⟨Me hk _ _ _ _ _ k.out⟩
theorem UD {env:Env}{h:ae}{o:Oper}{K K':QT}(hk:∀ v h,K v h→K' v h) (k:yq P env h o K):yq P env h o K':=by
 obtain⟨dst,op,ty,pos,after,guard⟩:=o
 have hk':∀ v,K v h→K' v h:=fun v=>hk v h
 cases op<;>simp only[yq]at k ⊢
 case move=>exact bk hk' _ k
 case assign=>exact bk hk' _ k
 case pick=>exact bk (fun _ k=>dM (fun _ _ k=>Cn (hk' _) (hk' _) k) _ _ k) _ k
 case alloc=>unfold aae at *;(repeat' split at k)<;>first|exact k.elim|(rw[if_pos ‹_›];exact⟨hk _ _ k.out⟩)
 case box=>exact bk (fun _ k=>⟨⟨k.out.1,hk _ _ k.out.2⟩⟩) _ k
 case build=>refine fx (fun _ k=>?_) _ k;unfold xO at *;(repeat' split at k)<;>first|exact k.elim|(rw[if_pos ‹_›];exact xz hk' _ _ k)
 case buildSlice=>refine fx (fun _ k=>?_) _ k;unfold ig at *;(repeat' split at k)<;>first|exact k.elim|(rw[if_pos ‹_›];exact nQ hk' _ _ _ k)
 case load=>refine bk (fun _ k=>?_) _ k;unfold kY at *;(repeat' split at k)<;>first|exact k.elim|(rw[if_pos ‹_›];exact ic hk' _ _ _ k)|(rw[if_neg ‹_›];exact ib hk' _ _ k)
 case store=>refine dM (fun _ _ k=>?_) _ _ k;unfold Mn at *;(repeat' split at k)<;>first|exact k.elim|exact OP (fun _ k=>hk _ _ k) _ _ _ _ k
 case nilCheck=>exact bk (fun _ k=>DY hk' _ k) _ k
 case binOp=>refine dM (fun _ _ k=>?_) _ _ k;unfold Qn at *;(repeat' split at k)<;>first|exact k.elim|exact tN hk' _ _ _ k|exact Ao hk' _ _ _ k|exact Au hk' _ _ _ k
 case unOp=>exact bk (fun _ k=>Hi hk' _ _ k) _ k
 case convert=>refine bk (fun _ k=>?_) _ k;unfold ES at *;(repeat' split at k)<;>first|exact k.elim|exact vf hk' _ _ k|exact u4 hk' _ _ k|exact uP hk' _ k
 case makeInterface=>refine bk (fun _ k=>?_) _ k;unfold D9 at *;(repeat' split at k)<;>first|exact k.elim|exact wD hk' _ _ k
 case makeFunc=>exact fx (fun _ k=>fx (fun _ k=>hk _ _ k) _ k) _ k
 case slice=>refine bk (fun _ k=>AW (fun _ k=>AW (fun _ k=>AW (fun _ k=>?_) _ k) _ k) _ k) _ k;unfold nU at *;(repeat' split at k)<;>first|exact k.elim|exact u5 hk' _ _ _ k|exact ve hk' _ _ _ _ k|exact uQ hk' _ k
 case fieldAddr=>refine bk (fun _ k=>?_) _ k;unfold oc at *;(repeat' split at k)<;>first|exact k.elim|(rw[if_neg ‹_›];exact pi hk' _ _ k)
 case field=>refine bk (fun _ k=>?_) _ k;unfold xg EM at *;(repeat' split at k)<;>first|exact k.elim|(rw[if_pos ‹_›];exact x9 hk' _ _ _ k)|(rw[if_neg ‹_›];exact yu hk' _ _ k)
 case indexAddr=>refine dM (fun _ _ k=>?_) _ _ k;unfold eF at *;(repeat' split at k)<;>first|exact k.elim|exact iM hk' _ _ _ k|exact fc hk' _ _ _ _ k
 case index=>refine dM (fun _ _ k=>?_) _ _ k;unfold C8 at *;(repeat' split at k)<;>first|exact k.elim|exact u2 hk' _ _ k
 case extract=>exact bk (fun _ k=>tD hk' _ _ k) _ k
 case call c=>
  refine fx (fun _ k=>?_) _ k
  split at k
  ·exact bk (fun _ k=>O8 hk _ _ _ k) _ k
  ·split at k
   ·unfold Dw at *
    (repeat' split at k)<;>first|exact k.elim|exact Ay hk' _ k|exact AN hk' _ k|exact AB hk' _ _ k
   ·exact k.elim
  ·split at k
   ·unfold B5 at *
    (repeat' split at k)<;>first|exact k.elim|(rw[if_pos ‹_›];exact My hk _ _ _ _ _ k)
   ·exact k.elim
  ·split at k
   ·exact C2 hk' _ _ k
   ·exact k.elim
  ·split at k
   ·exact C7 hk' _ _ k
   ·exact k.elim
  ·exact k.elim
end
end
section
variable [Tabs]
structure c6 (d:TypeDesc) (ok:Bool) (z x key:AV) (h:ae) (K:AV→Prop):Prop where
 mk::(out:ir d ok z x key h K)
structure qr (x:AV) (h:ae) (K:AV→Prop):Prop where
 mk::(out:g8 x h K)
structure FY (op:BinOp) (x:AV) (K:AV→Prop):Prop where
 mk::(out:mw op x K)
structure FU (op:BinOp) (x:AV) (K:AV→Prop):Prop where
 mk::(out:mp op x K)
structure FP (op:BinOp) (x:AV) (K:AV→Prop):Prop where
 mk::(out:mc op x K)
structure jW (op:BinOp) (x:AV) (K:AV→Prop):Prop where
 mk::(out:ou op x K)
structure A7 (x:AV) (h:ae) (K:AV→Prop):Prop where
 mk::(out:pm x h K)
structure US (op:BinOp) (ds:List TypeDesc) (x y:AV) (K:AV→Prop):Prop where
 mk::(out:Fw op ds x y K)
structure bV (d:TypeDesc) (x key v:AV) (h:ae) (K:ae→Prop):Prop where
 mk::(out:gq d x key v h K)
structure qt (d:TypeDesc) (z x key:AV) (h:ae) (K:QT):Prop where
 mk::(out:kw d z x key h K)
structure lS (x st v:AV) (h:ae) (K:ae→Prop):Prop where
 mk::(out:gd x st v h K)
structure qj (d:TypeDesc) (x key:AV) (h:ae) (K:ae→Prop):Prop where
 mk::(out:pW d x key h K)
structure mM (h:ae) (K:QT):Prop where
 mk::(out:uB h K)
structure u6 (x:AV) (h:ae) (K:QT):Prop where
 mk::(out:rY x h K)
structure Ak (x:AV) (h:ae) (K:QT):Prop where
 mk::(out:vF x h K)
structure vm (x:AV) (h:ae) (K:QT):Prop where
 mk::(out:qd x h K)
structure AG (x:AV) (h:ae) (K:QT):Prop where
 mk::(out:vO x h K)
structure qq (x:AV) (h:ae) (K:QT):Prop where
 mk::(out:ky x h K)
structure lD (b:Nat) (z l c:AV) (h:ae) (K:QT):Prop where
 mk::(out:iH b z l c h K)
theorem l6 {K K':AV→Prop}(hk:∀ v,K v→K' v) (op:BinOp) (b:Bool) (k:rh op b K):rh op b K':=by
 unfold rh at *
 split at k<;>first|exact k.elim|exact hk _ k
theorem Mr {K K':AV→Prop}(hk:∀ v,K v→K' v) (d:TypeDesc) (ok:Bool) (z x key:AV) (h:ae) (k:ir d ok z x key h K):ir d ok z x key h K':=by
 unfold ir at *
 (repeat' split at k)<;>first|exact k.elim|(simp_all;done)|(simp_all only [];exact hk _ k)
theorem vr {K K':AV→Prop}(hk:∀ v,K v→K' v) (d:TypeDesc) (ok:Bool) (z x key:AV) (h:ae) (k:c6 d ok z x key h K):c6 d ok z x key h K':=⟨Mr hk d ok z x key h k.out⟩
theorem Gv {K K':AV→Prop}(hk:∀ v,K v→K' v) (x:AV) (h:ae) (k:g8 x h K):g8 x h K':=by
 unfold g8 at *
 (repeat' split at k)<;>first|exact k.elim|(simp_all;done)|(simp_all only [];exact hk _ k)
theorem rc {K K':AV→Prop}(hk:∀ v,K v→K' v) (x:AV) (h:ae) (k:qr x h K):qr x h K':=⟨Gv hk x h k.out⟩
theorem Mg {K K':AV→Prop}(hk:∀ v,K v→K' v) (op:BinOp) (x:AV) (k:mw op x K):mw op x K':=by
 unfold mw at *
 (repeat' split at k)<;>first|exact k.elim|(simp_all;done)|(simp_all only [];exact hk _ k)
theorem uZ {K K':AV→Prop}(hk:∀ v,K v→K' v) (op:BinOp) (x:AV) (k:FY op x K):FY op x K':=⟨Mg hk op x k.out⟩
theorem LB {K K':AV→Prop}(hk:∀ v,K v→K' v) (op:BinOp) (x:AV) (k:mp op x K):mp op x K':=by
 unfold mp at *
 (repeat' split at k)<;>first|exact k.elim|(simp_all;done)|(simp_all only [];exact hk _ k)
theorem vu {K K':AV→Prop}(hk:∀ v,K v→K' v) (op:BinOp) (x:AV) (k:FU op x K):FU op x K':=⟨LB hk op x k.out⟩
theorem MG {K K':AV→Prop}(hk:∀ v,K v→K' v) (op:BinOp) (x:AV) (k:mc op x K):mc op x K':=by
 unfold mc at *
 (repeat' split at k)<;>first|exact k.elim|(simp_all;done)|(simp_all only [];exact hk _ k)
theorem uX {K K':AV→Prop}(hk:∀ v,K v→K' v) (op:BinOp) (x:AV) (k:FP op x K):FP op x K':=⟨MG hk op x k.out⟩
theorem M5 {K K':AV→Prop}(hk:∀ v,K v→K' v) (op:BinOp) (x:AV) (k:ou op x K):ou op x K':=by
 unfold ou at *
 split at k
 ·exact l6 hk _ _ k
 ·split at k
  ·rename_i h0;rw[if_pos h0];exact⟨l6 hk _ _ k.1,l6 hk _ _ k.2⟩
  ·rename_i h0;rw[if_neg h0];exact l6 hk _ _ k
 ·split at k
  ·rename_i h0;rw[if_pos h0];exact⟨l6 hk _ _ k.1,l6 hk _ _ k.2⟩
  ·rename_i h0;rw[if_neg h0];exact l6 hk _ _ k
 ·exact k.elim
theorem Bz {K K':AV→Prop}(hk:∀ v,K v→K' v) (op:BinOp) (x:AV) (k:jW op x K):jW op x K':=⟨M5 hk op x k.out⟩
theorem OM {K K':AV→Prop}(hk:∀ v,K v→K' v) (x:AV) (h:ae) (k:pm x h K):pm x h K':=by
 unfold pm at *
 (repeat' split at k)<;>first|exact k.elim|(simp_all;done)|(simp_all only [];exact hk _ k)
theorem yr {K K':AV→Prop}(hk:∀ v,K v→K' v) (x:AV) (h:ae) (k:A7 x h K):A7 x h K':=⟨OM hk x h k.out⟩
theorem Vr {K K':AV→Prop}(hk:∀ v,K v→K' v) (op:BinOp) (ds:List TypeDesc) (x y:AV) (k:Fw op ds x y K):Fw op ds x y K':=by
 unfold Fw at *
 split at k
 ·split at k
  ·exact l6 hk _ _ k
  ·exact k.elim
 ·exact k.elim
theorem DU {K K':AV→Prop}(hk:∀ v,K v→K' v) (op:BinOp) (ds:List TypeDesc) (x y:AV) (k:US op ds x y K):US op ds x y K':=⟨Vr hk op ds x y k.out⟩
theorem Fm {K K':ae→Prop}(hk:∀ v,K v→K' v) (d:TypeDesc) (x key v:AV) (h:ae) (k:gq d x key v h K):gq d x key v h K':=by
 unfold gq at *
 (repeat' split at k)<;>first|exact k.elim|exact hk _ k|(rw[if_pos ‹_›];exact hk _ k)|(rw[if_neg ‹_›];exact hk _ k)|(simp_all;done)|(simp only[*,if_true];done)|(simp only[*,if_true];exact hk _ k)
theorem vT {K K':ae→Prop}(hk:∀ v,K v→K' v) (d:TypeDesc) (x key v:AV) (h:ae) (k:bV d x key v h K):bV d x key v h K':=⟨Fm hk d x key v h k.out⟩
theorem IV {K K':QT}(hk:∀ v h,K v h→K' v h) (d:TypeDesc) (z x key:AV) (h:ae) (k:kw d z x key h K):kw d z x key h K':=by
 unfold kw at *
 (repeat' split at k)<;>first|exact k.elim|exact hk _ _ k|(rw[if_pos ‹_›];exact hk _ _ k)|(rw[if_neg ‹_›];exact hk _ _ k)|(simp_all;done)|(simp only[*,if_true];done)|(simp only[*,if_true];exact hk _ _ k)
theorem GL {K K':QT}(hk:∀ v h,K v h→K' v h) (d:TypeDesc) (z x key:AV) (h:ae) (k:qt d z x key h K):qt d z x key h K':=⟨IV hk d z x key h k.out⟩
theorem Dt {K K':ae→Prop}(hk:∀ v,K v→K' v) (x st v:AV) (h:ae) (k:gd x st v h K):gd x st v h K':=by
 unfold gd at *
 (repeat' split at k)<;>first|exact k.elim|exact hk _ k|(rw[if_pos ‹_›];exact hk _ k)|(rw[if_neg ‹_›];exact hk _ k)|(simp_all;done)|(simp only[*,if_true];done)|(simp only[*,if_true];exact hk _ k)
theorem CZ {K K':ae→Prop}(hk:∀ v,K v→K' v) (x st v:AV) (h:ae) (k:lS x st v h K):lS x st v h K':=⟨Dt hk x st v h k.out⟩
theorem MC {K K':ae→Prop}(hk:∀ v,K v→K' v) (d:TypeDesc) (x key:AV) (h:ae) (k:pW d x key h K):pW d x key h K':=by
 unfold pW at *
 (repeat' split at k)<;>first|exact k.elim|exact hk _ k|(rw[if_pos ‹_›];exact hk _ k)|(rw[if_neg ‹_›];exact hk _ k)|(simp_all;done)|(simp only[*,if_true];done)|(simp only[*,if_true];exact hk _ k)
theorem Ms {K K':ae→Prop}(hk:∀ v,K v→K' v) (d:TypeDesc) (x key:AV) (h:ae) (k:qj d x key h K):qj d x key h K':=⟨MC hk d x key h k.out⟩
theorem Ju {K K':QT}(hk:∀ v h,K v h→K' v h) (h:ae) (k:uB h K):uB h K':=by
 exact hk _ _ k
theorem JE {K K':QT}(hk:∀ v h,K v h→K' v h) (h:ae) (k:mM h K):mM h K':=⟨Ju hk h k.out⟩
theorem LK {K K':QT}(hk:∀ v h,K v h→K' v h) (x:AV) (h:ae) (k:rY x h K):rY x h K':=by
 unfold rY at *
 (repeat' split at k)<;>first|exact k.elim|exact hk _ _ k|(rw[if_pos ‹_›];exact hk _ _ k)|(rw[if_neg ‹_›];exact hk _ _ k)|(simp_all;done)|(simp only[*,if_true];done)|(simp only[*,if_true];exact hk _ _ k)
theorem M1 {K K':QT}(hk:∀ v h,K v h→K' v h) (x:AV) (h:ae) (k:u6 x h K):u6 x h K':=⟨LK hk x h k.out⟩
theorem Pj {K K':QT}(hk:∀ v h,K v h→K' v h) (x:AV) (h:ae) (k:vF x h K):vF x h K':=by
 unfold vF at *
 (repeat' split at k)<;>first|exact k.elim|exact hk _ _ k|(rw[if_pos ‹_›];exact hk _ _ k)|(rw[if_neg ‹_›];exact hk _ _ k)|(simp_all;done)|(simp only[*,if_true];done)|(simp only[*,if_true];exact hk _ _ k)
theorem ND {K K':QT}(hk:∀ v h,K v h→K' v h) (x:AV) (h:ae) (k:Ak x h K):Ak x h K':=⟨Pj hk x h k.out⟩
theorem LZ {K K':QT}(hk:∀ v h,K v h→K' v h) (x:AV) (h:ae) (k:qd x h K):qd x h K':=by
 unfold qd at *
 (repeat' split at k)<;>first|exact k.elim|exact hk _ _ k|(rw[if_pos ‹_›];exact hk _ _ k)|(rw[if_neg ‹_›];exact hk _ _ k)|(simp_all;done)|(simp only[*,if_true];done)|(simp only[*,if_true];exact hk _ _ k)
theorem Mb {K K':QT}(hk:∀ v h,K v h→K' v h) (x:AV) (h:ae) (k:vm x h K):vm x h K':=⟨LZ hk x h k.out⟩
theorem P1 {K K':QT}(hk:∀ v h,K v h→K' v h) (x:AV) (h:ae) (k:vO x h K):vO x h K':=by
 unfold vO at *
 split at k
 ·split at k
  ·exact hk _ _ k
  ·split at k
   ·exact⟨k.1,fun a=>hk _ _ (k.2.1 a),fun e he hs=>hk _ _ (k.2.2 e he hs)⟩
   ·exact k.elim
  ·exact k.elim
 ·exact k.elim
theorem Qj {K K':QT}(hk:∀ v h,K v h→K' v h) (x:AV) (h:ae) (k:AG x h K):AG x h K':=⟨P1 hk x h k.out⟩
theorem Hc {K K':QT}(hk:∀ v h,K v h→K' v h) (x:AV) (h:ae) (k:ky x h K):ky x h K':=by
 unfold ky at *
 (repeat' split at k)<;>first|exact k.elim|exact hk _ _ k|(rw[if_pos ‹_›];exact hk _ _ k)|(rw[if_neg ‹_›];exact hk _ _ k)|(simp_all;done)|(simp only[*,if_true];done)|(simp only[*,if_true];exact hk _ _ k)
theorem GN {K K':QT}(hk:∀ v h,K v h→K' v h) (x:AV) (h:ae) (k:qq x h K):qq x h K':=⟨Hc hk x h k.out⟩
theorem Fx {K K':QT}(hk:∀ v h,K v h→K' v h) (b:Nat) (z l c:AV) (h:ae) (k:iH b z l c h K):iH b z l c h K':=by
 unfold iH at *
 split at k
 ·exact⟨k.1,hk _ _ k.2⟩
 ·exact k.elim
theorem FA {K K':QT}(hk:∀ v h,K v h→K' v h) (b:Nat) (z l c:AV) (h:ae) (k:lD b z l c h K):lD b z l c h K':=⟨Fx hk b z l c h k.out⟩
end
section
variable [Tabs]
section
variable {P:Program}{G:Gh}{h:ae}{w:World}
def E6 (P:Program):Op→Bool
 | .makeMap _ none=>true
 | .lookup ..=>true
 | .mapUpdate ..=>true
 | .insert ..=>true
 | .mapEntry ..=>true
 | .entryStore ..=>true
 | .range ..=>true
 | .next ..=>true
 | .entry _=>true
 | .makeSlice ..=>true
 | .convert s d _=>match P.underlying s,P.underlying d with
   | some (.slice _),some .string=>true
   | some .string,some (.slice _)=>true
   | _,_=>false
 | .binOp _ t _ _ _=>match P.underlying t with
   | some (.slice _)=>true
   | some (.map _ _)=>true
   | some (.interface _)=>true
   | some (.func _ _ _)=>true
   | some (.struct _)=>true
   | _=>false
 | .call c=>match c.callee with
   | .builtin .delete=>true
   | _=>false
 | _=>false
def Dq (P:Program) (t:TypeId) (K:TypeDesc→Value→Prop):Prop:=
 match P.underlying t with
 | some (.map kt et)=>(match P.underlying kt,P.info? et with
   | some d,some i=>(match i.zero with|some z=>if okV z=true then K d z else False|none=>False)
   | _,_=>False)
 | _=>False
def BA (P:Program) (t:TypeId) (K:TypeDesc→Prop):Prop:=
 match P.underlying t with
 | some (.map kt _)=>(match P.underlying kt with|some d=>K d|none=>False)
 | _=>False
def yP (P:Program) (e:TypeId):Bool:=match P.underlying e with|some (.int .u8)=>true|_=>false
def yG (P:Program) (op:BinOp) (t:TypeId) (a:AV) (y:Operand) (K:AV→Prop):Prop:=
 match P.underlying t,y with
 | some (.slice _),.const (.slice none 0 0)=>jW op a K
 | some (.map _ _),.const (.map none)=>FY op a K
 | some (.interface _),.const .nilIface=>FU op a K
 | some (.func _ _ _),.const .nilFunc=>FP op a K
 | _,_=>False
def wy (P:Program) (env:Env) (h:ae) (o:Oper) (K:QT):Prop:=
 match o.op with
 | .makeMap _ none=>mM h K
 | .lookup t x i ok=>eE (opv env x) (opv env i) fun a b=>Dq P t fun d z=>c6 d ok (ofV z) a b h fun r=>K r h
 | .mapUpdate t m k v=>eE (opv env m) (opv env k) fun a b=>bW (opv env v) fun c=>BA P t fun d=>bV d a b c h fun h'=>K (.tup []) h'
 | .insert t m k v=>eE (opv env m) (opv env k) fun a b=>bW (opv env v) fun c=>BA P t fun d=>bV d a b c h fun h'=>K (.tup []) h'
 | .mapEntry t m k=>eE (opv env m) (opv env k) fun a b=>Dq P t fun d z=>qt d (ofV z) a b h K
 | .entryStore t m s v=>eE (opv env m) (opv env s) fun a b=>bW (opv env v) fun c=>lS a b c h fun h'=>K (.tup []) h'
 | .range t x=>bW (opv env x) fun a=>match P.underlying t with
   | some .string=>u6 a h K
   | some (.map _ _)=>vm a h K
   | _=>False
 | .next x b=>bW (opv env x) fun a=>if b=true then Ak a h K else AG a h K
 | .entry x=>bW (opv env x) fun a=>A7 a h fun r=>K r h
 | .makeSlice t l c=>eE (opv env l) (opv env c) fun a b=>match P.underlying t with
   | some (.slice e)=>(match P.info? e with
     | some i=>(match i.zero with|some z=>if (i.size==1&&z.oneCell')=true then lD i.bytes (Ih z) a b h K else False|none=>False)
     | none=>False)
   | _=>False
 | .convert s d x=>bW (opv env x) fun a=>match P.underlying s,P.underlying d with
   | some (.slice e),some .string=>if yP P e=true then qr a h fun r=>K r h else False
   | some .string,some (.slice e)=>if yP P e=true then qq a h K else False
   | _,_=>False
 | .binOp op t x y _=>match P.underlying t with
   | some (.struct fs)=>eE (opv env x) (opv env y) fun a b=>(match wZ P fs.toList 0 with
     | some ds=>if (!P.stoodInHeld t&&!P.eqGuardType P.depth t)=true then US op ds a b fun r=>K r h else False
     | none=>False)
   | _=>bW (opv env x) fun a=>yG P op t a y fun r=>K r h
 | .call c=>match c.callee with
   | .builtin .delete=>d6 (lq env c.args.toList) fun vs=>(match vs,c.argTypes.toList with
     | [m,k],t::_=>BA P t fun d=>qj d m k h fun h'=>K (.tup []) h'
     | _,_=>False)
   | _=>False
 | _=>False
def wY (P:Program) (env:Env) (h:ae) (o:Oper) (K:QT):Prop:=if E6 P o.op=true then wy P env h o K else yq P env h o K
theorem F4 {t:TypeId}{K:TypeDesc→Value→Prop}(k:Dq P t K):∃ kt et d i z,P.underlying t=some (.map kt et)∧P.underlying kt=some d∧P.info? et=some i∧i.zero=some z∧okV z=true∧K d z:=by
 unfold Dq at k
 split at k
 ·split at k
  ·split at k
   ·split at k
    ·exact⟨_,_,_,_,_,‹_›,‹_›,‹_›,‹_›,‹_›,k⟩
    ·exact k.elim
   ·exact k.elim
  ·exact k.elim
 ·exact k.elim
theorem Bw {t:TypeId}{K:TypeDesc→Prop}(k:BA P t K):∃ kt et d,P.underlying t=some (.map kt et)∧P.underlying kt=some d∧K d:=by
 unfold BA at k
 split at k
 ·split at k
  ·exact⟨_,_,_,‹_›,‹_›,k⟩
  ·exact k.elim
 ·exact k.elim
theorem HN {e:TypeId}(h:yP P e=true):P.underlying e=some (.int .u8):=by
 unfold yP at h
 split at h
 ·assumption
 ·cases h
theorem Zc {m:Sem Unit}{K:ae→Prop}(k:∃ h' G' w',m.run P w=.ok () w'∧K h'∧Sim G' h' w'∧Evo G h w G' h' w'):UpV P (N0 G h w fun v h'=>v=.tup []∧K h') ((do m;pure .skip:Sem Next).run P w):=by
 obtain⟨h',G',w',q1,q2,q3,q4⟩:=k
 simp only[Sem.run_bind,q1,Result.andThen_ok,Sem.run_pure]
 exact⟨.tup [],h',G',by simp[Rep,RepL,undef],⟨rfl,q2⟩,q3,q4⟩
theorem ZS {N N':Value→World→Prop}(hk:∀ v w,N v w→N' v w) {r:Result Next}(k:UpV P N r):UpV P N' r:=by
 unfold UpV at *
 split at k
 ·exact hk _ _ k
 ·exact hk _ _ k
 ·exact Calls.mono k fun e w'' ⟨v,he,hv⟩=>⟨v,he,hk _ _ hv⟩
 ·exact k.elim
theorem Gi {m:Sem Unit}{K:QT}(k:∃ h' G' w',m.run P w=.ok () w'∧K (.tup []) h'∧Sim G' h' w'∧Evo G h w G' h' w'):UpV P (N0 G h w K) ((do m;pure .skip:Sem Next).run P w):=
 ZS (fun v w' ⟨r,h',G',q1,⟨q2,q3⟩,q4,q5⟩=>⟨r,h',G',q1,by subst q2;exact q3,q4,q5⟩) (Zc (K:=K (.tup [])) k)
theorem aaT (s:Sim G h w) {env:Env}{a:Act}(r:EnvRep G env a.tmps) {o:Oper}{K:QT}(k:wy P env h o K):UpV P (N0 G h w K) ((execOp a.eval o).run P w):=by
 obtain⟨dst,op,ty,pos,after,guard⟩:=o
 cases op<;>simp only[wy]at k<;>try exact k.elim
 case makeMap t re=>
  cases re with
  | none=>exact gW (Qb s k.out)
  | some x=>exact k.elim
 case lookup t x i ok=>
  obtain⟨v,h1,k⟩:=aH k
  obtain⟨u,h2,k⟩:=aH k
  obtain⟨kt,et,d,inf,z,q1,q2,q3,q4,q5,k⟩:=F4 k
  exact bd s (Rm s q1 q2 q3 q4 q5 (aP r h1) (aP r h2) k.out)
 case mapUpdate t m i x=>
  obtain⟨v,h1,k⟩:=aH k
  obtain⟨u,h2,k⟩:=aH k
  obtain⟨y,h3,k⟩:=aH k
  obtain⟨kt,et,d,q1,q2,k⟩:=Bw k
  exact Gi (Ad s q1 q2 (aP r h1) (aP r h2) (aP r h3) k.out)
 case insert t m i x=>
  obtain⟨v,h1,k⟩:=aH k
  obtain⟨u,h2,k⟩:=aH k
  obtain⟨y,h3,k⟩:=aH k
  obtain⟨kt,et,d,q1,q2,k⟩:=Bw k
  exact Gi (Ad s q1 q2 (aP r h1) (aP r h2) (aP r h3) k.out)
 case mapEntry t m i=>
  obtain⟨v,h1,k⟩:=aH k
  obtain⟨u,h2,k⟩:=aH k
  obtain⟨kt,et,d,inf,z,q1,q2,q3,q4,q5,k⟩:=F4 k
  exact gW (MU s q1 q2 q3 q4 q5 (aP r h1) (aP r h2) k.out)
 case entryStore t m i x=>
  obtain⟨v,h1,k⟩:=aH k
  obtain⟨u,h2,k⟩:=aH k
  obtain⟨y,h3,k⟩:=aH k
  exact Gi (H0 s (aP r h1) (aP r h2) (aP r h3) k.out)
 case range t x=>
  obtain⟨v,h1,k⟩:=aH k
  split at k
  ·exact gW (SN s ‹_› (aP r h1) k.out)
  ·exact gW (S4 s ‹_› (aP r h1) k.out)
  ·exact k.elim
 case next x b=>
  obtain⟨v,h1,k⟩:=aH k
  cases b
  ·exact gW (Uz s (aP r h1) k.out)
  ·exact gW (We s (aP r h1) k.out)
 case entry x=>
  obtain⟨v,h1,k⟩:=aH k
  exact bd s (UE s (aP r h1) k.out)
 case makeSlice t l c=>
  obtain⟨v,h1,k⟩:=aH k
  obtain⟨u,h2,k⟩:=aH k
  split at k
  ·split at k
   ·split at k
    ·split at k
     ·rename_i hc
      simp only[Bool.and_eq_true,beq_iff_eq]at hc
      exact gW (Jy s ‹_› ‹_› ‹_› hc.1 hc.2 (aP r h1) (aP r h2) k.out)
     ·exact k.elim
    ·exact k.elim
   ·exact k.elim
  ·exact k.elim
 case convert sr d x=>
  obtain⟨v,h1,k⟩:=aH k
  split at k
  ·split at k
   ·exact bd s (Mk s ‹_› (HN ‹_›) ‹_› (aP r h1) k.out)
   ·exact k.elim
  ·split at k
   ·exact gW (Ny s ‹_› ‹_› (HN ‹_›) (aP r h1) k.out)
   ·exact k.elim
  ·exact k.elim
 case binOp op t x y yt=>
  split at k
  ·rename_i fs ht
   obtain⟨v,h1,k⟩:=aH k
   obtain⟨u,h2,k⟩:=aH k
   split at k
   ·split at k
    ·rename_i hc
     simp only[Bool.and_eq_true,Bool.not_eq_true']at hc
     exact bd s (aaE ht ‹_› hc.1 hc.2 (aP r h1) (aP r h2) k.out)
    ·exact k.elim
   ·exact k.elim
  ·obtain⟨v,h1,k⟩:=aH k
   unfold yG at k
   split at k
   ·exact bd s (Rp ‹_› (aP r h1) k.out)
   ·exact bd s (SV ‹_› (aP r h1) k.out)
   ·exact bd s (Tc ‹_› (aP r h1) k.out)
   ·exact bd s (RY ‹_› (aP r h1) k.out)
   ·exact k.elim
 case call c=>
  obtain⟨callee,args,argTypes⟩:=c
  simp only at k
  split at k
  ·obtain⟨vs,h1,k⟩:=dI k
   have hr:=jA r h1
   split at k
   ·rename_i m ke t ts hT
    obtain⟨kt,et,d,q1,q2,k⟩:=Bw k
    obtain⟨x,y,hx,hx2,hx3⟩:=hr.two
    have hargs:args.map a.eval=#[x,y]:=by apply Array.toList_inj.1;simpa using hx
    have hts:argTypes[0]?=some t:=by have:=congrArg (·[0]?) hT;simpa using this
    obtain⟨r',v',h',G',w',p1,p2,⟨p3,p4⟩,p5,p6⟩:=RT (ty:=ty) s q1 q2 hx2 hx3 hts k.out
    subst p3
    simp only[execOp,resolve,Sem.run_bind,Sem.run_pure,Result.andThen_ok,invoke,builtin,hargs,p1]
    exact⟨_,h',G',p2,p4,p5,p6⟩
   ·exact k.elim
  ·exact k.elim
theorem aad (s:Sim G h w) {env:Env}{a:Act}(r:EnvRep G env a.tmps) {o:Oper}{K:QT}(k:wY P env h o K):UpV P (N0 G h w K) ((execOp a.eval o).run P w):=by
 unfold wY at k
 split at k
 ·exact aaT s r k
 ·exact aax s r k
theorem Ld {t:TypeId}{K K':TypeDesc→Value→Prop}(hk:∀ d z,K d z→K' d z) (k:Dq P t K):Dq P t K':=by
 unfold Dq at *
 (repeat' split at k)<;>first|exact k.elim|(simp only[*,if_true];exact hk _ _ k)|(rw[if_pos ‹_›];exact hk _ _ k)
theorem CN {t:TypeId}{K K':TypeDesc→Prop}(hk:∀ d,K d→K' d) (k:BA P t K):BA P t K':=by
 unfold BA at *
 (repeat' split at k)<;>first|exact k.elim|exact hk _ k
theorem U5 {env:Env}{h:ae}{o:Oper}{K K':QT}(hk:∀ v h,K v h→K' v h) (k:wy P env h o K):wy P env h o K':=by
 obtain⟨dst,op,ty,pos,after,guard⟩:=o
 have hk':∀ v,K v h→K' v h:=fun v=>hk v h
 have hk2:∀ h',K (.tup []) h'→K' (.tup []) h':=fun h'=>hk _ h'
 cases op<;>simp only[wy]at k ⊢<;>try exact k.elim
 case makeMap t re=>
  cases re with
  | none=>exact JE hk _ k
  | some x=>exact k.elim
 case lookup=>exact dM (fun _ _ k=>Ld (fun _ _ k=>vr hk' _ _ _ _ _ _ k) k) _ _ k
 case mapUpdate=>exact dM (fun _ _ k=>bk (fun _ k=>CN (fun _ k=>vT hk2 _ _ _ _ _ k) k) _ k) _ _ k
 case insert=>exact dM (fun _ _ k=>bk (fun _ k=>CN (fun _ k=>vT hk2 _ _ _ _ _ k) k) _ k) _ _ k
 case mapEntry=>exact dM (fun _ _ k=>Ld (fun _ _ k=>GL hk _ _ _ _ _ k) k) _ _ k
 case entryStore=>exact dM (fun _ _ k=>bk (fun _ k=>CZ hk2 _ _ _ _ k) _ k) _ _ k
 case range=>
  refine bk (fun _ k=>?_) _ k
  split at k
  ·exact M1 hk _ _ k
  ·exact Mb hk _ _ k
  ·exact k.elim
 case next x b=>
  refine bk (fun _ k=>?_) _ k
  cases b
  ·exact Qj hk _ _ k
  ·exact ND hk _ _ k
 case entry=>exact bk (fun _ k=>yr hk' _ _ k) _ k
 case makeSlice=>
  refine dM (fun _ _ k=>?_) _ _ k
  (repeat' split at k)<;>first|exact k.elim|(rw[if_pos ‹_›];exact FA hk _ _ _ _ _ k)
 case convert=>
  refine bk (fun _ k=>?_) _ k
  (repeat' split at k)<;>first|exact k.elim|(rw[if_pos ‹_›];exact rc hk' _ _ k)|(rw[if_pos ‹_›];exact GN hk _ _ k)
 case binOp=>
  split at k
  ·refine dM (fun _ _ k=>?_) _ _ k
   (repeat' split at k)<;>first|exact k.elim|(rw[if_pos ‹_›];exact DU hk' _ _ _ _ k)
  ·refine bk (fun _ k=>?_) _ k
   unfold yG at *
   split at k
   ·exact Bz hk' _ _ k
   ·exact uZ hk' _ _ k
   ·exact vu hk' _ _ k
   ·exact uX hk' _ _ k
   ·exact k.elim
 case call c=>
  split at k
  ·refine fx (fun _ k=>?_) _ k
   split at k
   ·exact CN (fun _ k=>Ms hk2 _ _ _ _ k) k
   ·exact k.elim
  ·exact k.elim
theorem Wl {env:Env}{h:ae}{o:Oper}{K K':QT}(hk:∀ v h,K v h→K' v h) (k:wY P env h o K):wY P env h o K':=by
 unfold wY at *
 split at k
 ·rename_i hn;rw[if_pos hn];exact U5 hk k
 ·rename_i hn;rw[if_neg hn];exact UD hk k
end
end
section
variable [Tabs]
section
variable {P:Program}{G:Gh}{h:ae}{w:World}
omit [Tabs] in
theorem HH {α:Type}(l:List α) (off:Nat):splice l off []=l:=by simp[splice]
omit [Tabs] in
theorem PK {i:Nat}{o:AObj}(hi:h[i]?=some o):h.set i o=h:=by
 apply List.ext_getElem?
 intro j
 rw[List.getElem?_set]
 split
 ·rename_i e;subst e
  split
  ·exact hi.symm
  ·rename_i hn;rw[List.getElem?_eq_none (by omega)]at hi;cases hi
 ·rfl
theorem JY (s:Sim G h w) {i off len sz:Nat}{cs xs:List AV}{x:Value}(hcs:h[i]?=some (.cells cs)) (hx:Rep G (.sl i off len sz) x) {vs:List Value}(hv:RepL G xs vs) (hone:xs.all AV.one=true) (hl:xs.length≤len*sz) (hle:off+len*sz≤cs.length):
  ∃ b c,x=.slice (some b) len c∧∃ G' w',(storeCells b vs).run P w=.ok () w'∧Sim G' (h.set i (.cells (splice cs off xs))) w'∧Evo G h w G' (h.set i (.cells (splice cs off xs))) w':=by
 simp only[Rep]at hx
 obtain⟨b,o,c,ad,h1,h2,h3,h4,rfl⟩:=hx
 refine⟨_,_,rfl,?_⟩
 have hlv:=hv.length
 rcases Nat.eq_zero_or_pos c with hc0|hc0
 ·have:xs=[]:=by
   have:len=0:=by omega
   subst this
   exact List.length_eq_zero_iff.1 (by omega)
  subst this
  simp only[RepL]at hv
  subst hv
  refine⟨G,w,by simp[storeCells],?_,?_⟩
  ·rw[HH,PK hcs];exact s
  ·rw[HH,PK hcs];exact Evo.refl _ _ _
 ·obtain rfl:=h4 hc0
  obtain⟨b',o',arr,el,lo,hi',e1,e2,e3,e4,e5,e6⟩:=rM s hcs
  rw[h1]at e1
  cases e1
  obtain⟨arr',q2,q3⟩:=uW (P:=P) b (o+off) el lo hi' vs 0 arr w e2 e3 (by omega) (F3 hv hone)
  have hsz:arr'.size=arr.size:=by
   have:=congrArg List.length q3
   rw[gA (by simp;omega)]at this
   simpa using this
  have x:ObjAt G (dx w b (.cells arr' el (lo,hi'))) i (.cells (splice cs off xs)):=by
   refine⟨b,o,arr',el,lo,hi',h1,nG w b _ (Array.getElem?_eq_some_iff.1 e2).1,by rw[hsz];exact e3,by rw[gA (by omega)];exact e4,by rw[hsz];exact e5,?_⟩
   intro q a ha
   rw[dD (by omega)]at ha
   have hget:arr'[o+q]?=arr'.toList[o+q]?:=by simp
   rw[hget,q3,dD (by simp;omega)]
   by_cases c1:q<off
   ·rw[if_pos c1]at ha
    rw[if_pos (by omega)]
    simpa using e6 q a ha
   ·rw[if_neg c1]at ha
    rw[if_neg (by omega)]
    by_cases c2:q<off+xs.length
    ·rw[if_pos c2]at ha
     rw[if_pos (by omega)]
     obtain⟨v,h4,h5⟩:=hv.at _ a ha
     exact⟨v,by rw[← h4];congr 1;omega,h5⟩
    ·rw[if_neg c2]at ha
     rw[if_neg (by omega)]
     simpa using e6 q a ha
  obtain⟨s',ev⟩:=wK s hcs rfl h1 rfl x
  exact⟨_,_,q2,s',ev⟩
theorem Eh (s:Sim G h w) {size:Nat}{v:AV}{x:Value}(hx:Rep G v x) {m:Nat}{xs:List AV}(e:ct h size v=some (m,xs)) {k:Nat}(hk:k≤m):
  ∃ vs:List Value,RepL G (xs.take (k*size)) vs∧(Builtin.firstCells size k x).run P w=.ok vs.toArray w:=by
 have hmul:k*size≤m*size:=Nat.mul_le_mul_right _ hk
 have snap:∀ (n c:Nat) (cs:List AV) (base:Option Addr),ct h size (.snap n cs)=some (m,xs)→k≤n→(cs=[]∧n=0∨∃ b o,base=some ⟨b,o,none⟩∧RepAt G cs b o)→
   ∃ vs:List Value,RepL G (xs.take (k*size)) vs∧(Builtin.firstCells size k (.slice base n c)).run P w=.ok vs.toArray w:=by
  intro n c cs base e hkn hb
  simp only[ct]at e
  split at e
  ·rename_i hl
   cases e
   rcases hb with ⟨rfl,rfl⟩|⟨b,o,rfl,h2⟩
   ·exact⟨[],by simp[RepL],by rw[show k=0 by omega];cases base<;>simp[Builtin.firstCells,loadCells,loadCellsFrom]⟩
   ·obtain⟨vs,h3,h4,h5⟩:=vA s h2 hl
    refine⟨vs.take (k*size),?_,?_⟩
    ·refine jO (by simp;omega) fun j a ha=>?_
     rw[List.getElem?_take]at ha ⊢
     split at ha
     ·rename_i hj;rw[if_pos hj];exact h4.at j a ha
     ·cases ha
    ·have:=run_loadCells_list (P:=P) w ⟨b,o,none⟩ (vs.take (k*size)) (fun j v hj=>by
      rw[dK]
      rw[List.getElem?_take]at hj
      split at hj
      ·exact h5 j v hj
      ·cases hj)
     have hlen:(vs.take (k*size)).length=k*size:=by simp;omega
     rw[hlen]at this
     simpa [Builtin.firstCells] using this
  ·cases e
 unfold ct at e
 split at e
 ·rename_i n cs
  have hn:n=m:=by split at e<;>cases e;rfl
  simp only[Rep]at hx
  rcases hx with ⟨rfl,rfl,za,rfl⟩|⟨b,o,c,h1,rfl,h2⟩
  ·exact snap 0 0 [] za (by simpa [ct] using e) (by omega) (.inl ⟨rfl,rfl⟩)
  ·exact snap n c cs _ (by simpa [ct] using e) (by omega) (.inr ⟨b,o,rfl,h2⟩)
 ·rename_i n cs
  have hn:n=m:=by split at e<;>cases e;rfl
  simp only[Rep]at hx
  rcases hx with ⟨rfl,rfl,za,rfl⟩|⟨b,o,rfl,h2⟩
  ·exact snap 0 0 [] za (by simpa [ct] using e) (by omega) (.inl ⟨rfl,rfl⟩)
  ·exact snap n n cs _ (by simpa [ct] using e) (by omega) (.inr ⟨b,o,rfl,h2⟩)
 ·rename_i i off len sz
  split at e
  ·rename_i cs hcs
   split at e
   ·rename_i hc
    obtain⟨rfl,hle⟩:=hc
    cases e
    simp only[Rep]at hx
    obtain⟨b,o,c,ad,h1,h2,h3,h4,rfl⟩:=hx
    obtain⟨vs,q1,q2,_,q4⟩:=n5 (P:=P) (size:=sz) s (v:=.sl i off k sz) (x:=.slice (some ⟨b,ad,none⟩) k c) (by
     simp only[Rep];exact⟨b,o,c,ad,h1,h2,by omega,h4,rfl⟩) (m:=k) (xs:=(cs.drop off).take (k*sz)) (by simp[ct,hcs];omega)
    refine⟨vs,?_,?_⟩
    ·rw[List.take_take,Nat.min_eq_left hmul];exact q2
    ·simpa [Builtin.firstCells] using q4
   ·cases e
  ·cases e
 ·rename_i s'
  split at e
  ·rename_i h1
   subst h1
   cases e
   simp only[Rep]at hx
   obtain⟨rfl,_⟩:=hx
   refine⟨(s'.data.toList.take k).map fun b=>Value.int .u8 b.toNat,by rw[Nat.mul_one,← List.map_take];exact AP G _,?_⟩
   simp only[Builtin.firstCells,Sem.run_pure]
   congr 1
   apply Array.toList_inj.1
   simp[ByteArray.extract,ByteArray.copySlice]
  ·cases e
 ·cases e
def EJ (size:Nat) (v x:AV) (h:ae) (K:QT):Prop:=
 match ct h size x with
 | none=>False
 | some (m,xs)=>match v with
   | .sl i off len sz=>(match h[i]? with
     | some (.cells cs)=>(sz=size∧off+len*size≤cs.length∧xs.all AV.one=true)∧K (I (Nat.min m len)) (h.set i (.cells (splice cs off (xs.take (Nat.min m len*size)))))
     | _=>False)
   | .full n _=>Nat.min m n=0∧K (I 0) h
   | .snap n _=>Nat.min m n=0∧K (I 0) h
   | _=>False
structure acS (size:Nat) (v x:AV) (h:ae) (K:QT):Prop where
 mk::(out:EJ size v x h K)
theorem Zq (s:Sim G h w) {t e ty:TypeId}{ts:Array TypeId}{i:TypeInfo}(ht0:ts[0]?=some t) (ht:P.underlying t=some (.slice e)) (hi:P.info? e=some i) {v x:AV}{a b:Value}(hx:Rep G v a) (hy:Rep G x b) {K:QT}(k:EJ i.size v x h K):
  Ye P G h w (Builtin.copy_ ts ty #[a,b]) K:=by
 unfold EJ at k
 split at k
 ·exact k.elim
 ·rename_i m xs hxs
  obtain⟨_,_,_,hm,_⟩:=n5 (P:=P) s hy hxs
  have none_:∀ (base:Option Addr) (n c:Nat),a=.slice base n c→Nat.min m n=0→K (I 0) h→Ye P G h w (Builtin.copy_ ts ty #[a,b]) K:=by
   rintro base n c rfl hmn k
   obtain⟨vs,hv1,hv2⟩:=Eh (P:=P) s hy hxs (k:=0) (Nat.zero_le _)
   simp only[Nat.zero_mul,List.take_zero,RepL]at hv1
   subst hv1
   refine⟨I 0,.int .i64 0,h,G,w,?_,by simp[Rep,Value.oneCell'],k,s,Evo.refl _ _ _⟩
   have hmn':min m n=0:=hmn
   cases base<;>simp[Builtin.copy_,ht0,run_underlying ht,hm,sizeOf,typeInfo,hi,hmn',hv2,storeCells,goInt]
  split at k
  ·rename_i j off len sz
   split at k
   ·rename_i cs hcs
    obtain⟨⟨rfl,hle,hone⟩,k⟩:=k
    have hkm:Nat.min m len≤m:=Nat.min_le_left _ _
    have hkl:Nat.min m len≤len:=Nat.min_le_right _ _
    obtain⟨vs,hv1,hv2⟩:=Eh (P:=P) s hy hxs hkm
    obtain⟨ba,c,rfl,G',w',q1,q2,q3⟩:=JY (P:=P) s hcs hx hv1 (by
     rw[List.all_eq_true]at hone ⊢;exact fun y hy=>hone y (List.mem_of_mem_take hy)) (by simp only[List.length_take];exact Nat.le_trans (Nat.min_le_left _ _) (Nat.mul_le_mul_right _ hkl)) hle
    refine⟨_,.int .i64 (Nat.min m len),_,G',w',?_,by simp[Rep,Value.oneCell'],k,q2,q3⟩
    have hv2':(Builtin.firstCells i.size (min m len) b).run P w=.ok vs.toArray w:=hv2
    simp[Builtin.copy_,ht0,run_underlying ht,hm,sizeOf,typeInfo,hi,hv2',q1,goInt]
   ·exact k.elim
  ·rename_i n cs
   simp only[Rep]at hx
   rcases hx with ⟨rfl,rfl,za,rfl⟩|⟨bb,o,rfl,h2⟩
   ·exact none_ _ _ _ rfl k.1 k.2
   ·exact none_ _ _ _ rfl k.1 k.2
  ·rename_i n cs
   simp only[Rep]at hx
   rcases hx with ⟨rfl,rfl,za,rfl⟩|⟨bb,o,c,_,rfl,h2⟩
   ·exact none_ _ _ _ rfl k.1 k.2
   ·exact none_ _ _ _ rfl k.1 k.2
  ·exact k.elim
theorem Q5 {size:Nat}{v x:AV}{h:ae}{K K':QT}(hk:∀ v h,K v h→K' v h) (k:EJ size v x h K):EJ size v x h K':=by
 unfold EJ at *
 split at k
 ·exact k.elim
 ·split at k
  ·split at k
   ·exact⟨k.1,hk _ _ k.2⟩
   ·exact k.elim
  ·exact⟨k.1,hk _ _ k.2⟩
  ·exact⟨k.1,hk _ _ k.2⟩
  ·exact k.elim
def w9 (size:Nat) (u v:AV) (h:ae) (K:ae→Prop):Prop:=
 match v with
 | .sl i off len sz=>(match h[i]? with
   | some (.cells cs)=>(u.isTup=false∧u.cells.length=size∧sz=size∧off+len*size≤cs.length∧u.cells.all AV.one=true)∧K (h.set i (.cells (splice cs off (List.replicate len u.cells).flatten)))
   | _=>False)
 | .full 0 _=>K h
 | .snap 0 _=>K h
 | _=>False
structure acs (size:Nat) (u v:AV) (h:ae) (K:ae→Prop):Prop where
 mk::(out:w9 size u v h K)
omit [Tabs] in
theorem wV (zs:Array Value):∀ n,(Builtin.zeroCells zs n).toList=(List.replicate n zs.toList).flatten
 | 0=>by simp[Builtin.zeroCells]
 | n+1=>by
   have ih:=wV zs n
   rw[List.replicate_succ',List.flatten_append,← ih]
   simp only[Builtin.zeroCells,Array.toList_map,Array.toList_range,List.flatten_cons,List.flatten_nil,List.append_nil]
   rw[Nat.succ_mul,List.range_add,List.map_append]
   congr 1
   rw[List.map_map]
   apply List.ext_getElem?
   intro j
   simp only[List.getElem?_map,Function.comp_apply]
   by_cases hj:j<zs.size
   ·simp[hj,Nat.mod_eq_of_lt hj]
   ·simp[hj]
theorem P5 {G:Gh}{cs:List AV}{vs:List Value}(r:RepL G cs vs):∀ n,RepL G (List.replicate n cs).flatten (List.replicate n vs).flatten
 | 0=>by simp[RepL]
 | n+1=>by rw[List.replicate_succ,List.replicate_succ,List.flatten_cons,List.flatten_cons];exact r.append (P5 r n)
theorem Vo (s:Sim G h w) {t e ty:TypeId}{ts:Array TypeId}{i:TypeInfo}{z:Value}(ht0:ts[0]?=some t) (ht:P.underlying t=some (.slice e)) (hi:P.info? e=some i) (hz:i.zero=some z) {u v:AV}{a:Value}(hx:Rep G v a) (hu:Rep G u z) {K:ae→Prop}(k:w9 i.size u v h K):
  Ye P G h w (Builtin.clear_ ts ty #[a]) (fun r h'=>r=.tup []∧K h'):=by
 unfold w9 at k
 split at k
 ·rename_i j off len sz
  split at k
  ·rename_i cs hcs
   obtain⟨⟨hut,hul,rfl,hle,hone⟩,k⟩:=k
   have hc:=hu.cells hut
   have hrr:=P5 hc len
   have hlen:(List.replicate len u.cells).flatten.length=len*i.size:=by simp[List.length_flatten,hul]
   have hone':(List.replicate len u.cells).flatten.all AV.one=true:=by
    rw[List.all_eq_true]at hone ⊢
    intro y hy
    obtain⟨l,h1,h2⟩:=List.mem_flatten.1 hy
    rw[(List.mem_replicate.1 h1).2]at h2
    exact hone y h2
   obtain⟨ba,c,rfl,G',w',q1,q2,q3⟩:=JY (P:=P) s hcs hx hrr hone' (by omega) hle
   refine⟨.tup [],.tuple #[],_,G',w',?_,by simp[Rep,RepL],⟨rfl,k⟩,q2,q3⟩
   rw[← wV]at q1
   cases len with
   | zero=>
     have:w'=w:=by
      simp[Builtin.zeroCells,storeCells]at q1
      exact q1.symm
     subst this
     simp[Builtin.clear_,ht0,run_underlying ht]
   | succ len=>simp[Builtin.clear_,ht0,run_underlying ht,zeroValue,typeInfo,hi,hz,q1]
  ·exact k.elim
 ·simp only[Rep]at hx
  refine⟨.tup [],.tuple #[],h,G,w,?_,by simp[Rep,RepL],⟨rfl,k⟩,s,Evo.refl _ _ _⟩
  rcases hx with ⟨_,rfl,za,rfl⟩|⟨bb,o,rfl,h2⟩<;>(try cases za)<;>simp[Builtin.clear_,ht0,run_underlying ht]
 ·simp only[Rep]at hx
  refine⟨.tup [],.tuple #[],h,G,w,?_,by simp[Rep,RepL],⟨rfl,k⟩,s,Evo.refl _ _ _⟩
  rcases hx with ⟨_,rfl,za,rfl⟩|⟨bb,o,c,_,rfl,h2⟩<;>(try cases za)<;>simp[Builtin.clear_,ht0,run_underlying ht]
 ·exact k.elim
theorem QP {size:Nat}{u v:AV}{h:ae}{K K':ae→Prop}(hk:∀ h,K h→K' h) (k:w9 size u v h K):w9 size u v h K':=by
 unfold w9 at *
 split at k
 ·split at k
  ·exact⟨k.1,hk _ k.2⟩
  ·exact k.elim
 ·exact hk _ k
 ·exact hk _ k
 ·exact k.elim
end
end
section
variable [Tabs]
section
variable {P:Program}{G:Gh}{h:ae}{w:World}
inductive Ext where
 | index
 | count
 | bits
 | frombits
def NC (P:Program) (f:FuncId):Option Ext:=match P.funcs[f]? with
 | some fn => if fn.body.isNone = true then (if (fn.name == "internal/bytealg.IndexByteString" && fn.origin == "") = true then some .index
   else if (fn.name == "internal/bytealg.CountString" && fn.origin == "") = true then some .count else if (fn.name == "math.Float64bits" && fn.origin == "") = true then some .bits else if (fn.name == "math.Float64frombits" && fn.origin == "") = true then some .frombits else none) else none
 | none=>none
def AD (e:Ext) (vs:List AV) (K:AV→Prop):Prop:=
 match e,vs with
 | .index,[.lit (.string s),.lit (.int .u8 c)]=>K (I (Lib.indexByte s.data.toList c.toNat.toUInt8))
 | .count,[.lit (.string s),.lit (.int .u8 c)]=>K (I (Lib.countByte s.data.toList c.toNat.toUInt8))
 | .bits,[.lit (.float .f64 b)]=>K (.lit (.int .u64 b))
 | .frombits,[.lit (.int .u64 n)]=>K (.lit (.float .f64 n.toNat))
 | _,_=>False
structure YU (e:Ext) (vs:List AV) (K:AV→Prop):Prop where
 mk::(out:AD e vs K)
theorem DE {e:Ext}{vs:List AV}{K K':AV→Prop}(hk:∀ r,K r→K' r) (k:AD e vs K):AD e vs K':=by
 unfold AD at *
 split at k<;>first|exact hk _ k|exact k.elim
theorem YF {e:Ext}{vs:List AV}{K:AV→Prop}(k:AD e vs K):∃ v,K v∧AD e vs fun r=>r=v:=by
 unfold AD at *
 split at k<;>first|exact⟨_,k,rfl⟩|exact k.elim
theorem look_index : Extern.allGenericRows.lookup "internal/bytealg.IndexByteString" = none ∧ Extern.allTypedRows.lookup "internal/bytealg.IndexByteString" = none ∧ Extern.allRows.lookup "internal/bytealg.IndexByteString" = some Extern.BytealgIndexByte.indexByte := ⟨by kernel_rfl, by kernel_rfl, by kernel_rfl⟩
theorem look_count : Extern.allGenericRows.lookup "internal/bytealg.CountString" = none ∧ Extern.allTypedRows.lookup "internal/bytealg.CountString" = none ∧ Extern.allRows.lookup "internal/bytealg.CountString" = some Extern.BytealgCount.count := ⟨by kernel_rfl, by kernel_rfl, by kernel_rfl⟩
theorem look_bits : Extern.allGenericRows.lookup "math.Float64bits" = none ∧ Extern.allTypedRows.lookup "math.Float64bits" = none ∧ Extern.allRows.lookup "math.Float64bits" = some Extern.MathFloatBits.float64bits := ⟨by kernel_rfl, by kernel_rfl, by kernel_rfl⟩
theorem look_frombits : Extern.allGenericRows.lookup "math.Float64frombits" = none ∧ Extern.allTypedRows.lookup "math.Float64frombits" = none ∧ Extern.allRows.lookup "math.Float64frombits" = some Extern.MathFloatBits.float64frombits := ⟨by kernel_rfl, by kernel_rfl, by kernel_rfl⟩
theorem look_next2 : Extern.allNextRows.lookup "math.Float64bits" = none ∧ Extern.allNextRows.lookup "math.Float64frombits" = none := ⟨by kernel_rfl, by kernel_rfl⟩
theorem look_next : Extern.allNextRows.lookup "internal/bytealg.IndexByteString" = none ∧ Extern.allNextRows.lookup "internal/bytealg.CountString" = none ∧ Extern.allNextRows.lookup "" = none := ⟨by kernel_rfl, by kernel_rfl, by kernel_rfl⟩
theorem aaw {f:FuncId}{e:Ext}(he:NC P f=some e) {vs:List AV}{xs:Array Value}(hr:RepL G vs xs.toList) {K:AV→Prop}(k:AD e vs K):
  ∃ r v,(callFunc f xs).run P w=.ok (.value v) w∧Rep G r v∧K r:=by
 unfold NC at he
 split at he
 ·rename_i fn hf
  split at he
  ·rename_i hb
   split at he
   ·rename_i hn
    cases he
    simp only[Bool.and_eq_true,beq_iff_eq]at hn
    have h1:Extern.findNext fn=none:=by unfold Extern.findNext;simp only[hn.1,hn.2,look_next.1,look_next.2.2];rfl
    have h2:Extern.find fn=some Extern.BytealgIndexByte.indexByte:=by unfold Extern.find;simp only[hn.1,look_index.1,look_index.2.1,look_index.2.2];rfl
    rw[run_callFunc_extern hf (by rw[hn.1];decide) hb h1 h2]
    have k:∃ s c,vs=[.lit (.string s),.lit (.int .u8 c)]∧K (I (Lib.indexByte s.data.toList c.toNat.toUInt8)):=by
     unfold AD at k;split at k<;>first|contradiction|exact⟨_,_,rfl,k⟩|exact k.elim
    obtain⟨s,c,rfl,k⟩:=k
    ·obtain⟨a,b,hx,ha,hb⟩:=hr.two
     simp only[Rep]at ha hb
     have:xs=#[a,b]:=by apply Array.toList_inj.1;simpa using hx
     rw[this,ha.1,hb.1,run_indexByte_string,Lib.firstIdx_eq]
     exact⟨_,_,rfl,by simp[Rep,Value.oneCell'],k⟩
   ·split at he
    ·rename_i hn
     cases he
     simp only[Bool.and_eq_true,beq_iff_eq]at hn
     have h1:Extern.findNext fn=none:=by unfold Extern.findNext;simp only[hn.1,hn.2,look_next.2.1,look_next.2.2];rfl
     have h2:Extern.find fn=some Extern.BytealgCount.count:=by unfold Extern.find;simp only[hn.1,look_count.1,look_count.2.1,look_count.2.2];rfl
     rw[run_callFunc_extern hf (by rw[hn.1];decide) hb h1 h2]
     have k:∃ s c,vs=[.lit (.string s),.lit (.int .u8 c)]∧K (I (Lib.countByte s.data.toList c.toNat.toUInt8)):=by
      unfold AD at k;split at k<;>first|contradiction|exact⟨_,_,rfl,k⟩|exact k.elim
     obtain⟨s,c,rfl,k⟩:=k
     ·obtain⟨a,b,hx,ha,hb⟩:=hr.two
      simp only[Rep]at ha hb
      have:xs=#[a,b]:=by apply Array.toList_inj.1;simpa using hx
      rw[this,ha.1,hb.1,Lib.run_countString]
      exact⟨_,_,rfl,by simp[Rep,Value.oneCell'],k⟩
    ·split at he
     ·rename_i hn
      cases he
      simp only[Bool.and_eq_true,beq_iff_eq]at hn
      have h1:Extern.findNext fn=none:=by unfold Extern.findNext;simp only[hn.1,hn.2,look_next2.1,look_next.2.2];rfl
      have h2:Extern.find fn=some Extern.MathFloatBits.float64bits:=by unfold Extern.find;simp only[hn.1,look_bits.1,look_bits.2.1,look_bits.2.2];rfl
      rw[run_callFunc_extern hf (by rw[hn.1];decide) hb h1 h2]
      have k:∃ b,vs=[.lit (.float .f64 b)]∧K (.lit (.int .u64 b)):=by
       unfold AD at k;split at k<;>first|contradiction|exact⟨_,rfl,k⟩|exact k.elim
      obtain⟨b,rfl,k⟩:=k
      obtain⟨a,hx,ha⟩:=hr.single
      simp only[Rep]at ha
      have:xs=#[a]:=by apply Array.toList_inj.1;simpa using hx
      rw[this,ha.1]
      exact⟨_,_,rfl,by simp[Rep,Value.oneCell'],k⟩
     ·split at he
      ·rename_i hn
       cases he
       simp only[Bool.and_eq_true,beq_iff_eq]at hn
       have h1:Extern.findNext fn=none:=by unfold Extern.findNext;simp only[hn.1,hn.2,look_next2.2,look_next.2.2];rfl
       have h2:Extern.find fn=some Extern.MathFloatBits.float64frombits:=by unfold Extern.find;simp only[hn.1,look_frombits.1,look_frombits.2.1,look_frombits.2.2];rfl
       rw[run_callFunc_extern hf (by rw[hn.1];decide) hb h1 h2]
       have k:∃ n,vs=[.lit (.int .u64 n)]∧K (.lit (.float .f64 n.toNat)):=by
        unfold AD at k;split at k<;>first|contradiction|exact⟨_,rfl,k⟩|exact k.elim
       obtain⟨n,rfl,k⟩:=k
       obtain⟨a,hx,ha⟩:=hr.single
       simp only[Rep]at ha
       have:xs=#[a]:=by apply Array.toList_inj.1;simpa using hx
       rw[this,ha.1]
       exact⟨_,_,rfl,by simp[Rep,Value.oneCell'],k⟩
      ·cases he
  ·cases he
 ·cases he
def isX (P:Program):Op→Bool
 | .call c=>match c.callee with
   | .value (.func f)=>(NC P f).isSome
   | .builtin .copy=>true
   | .builtin .clear=>true
   | _=>false
 | .indexAddr _ (.global _) _=>true
 | .load _ (.global _)=>true
 | _=>false
def Zb:Op→Bool
 | .call c=>match c.callee with
   | .value (.func _)=>true
   | _=>false
 | .indexAddr _ (.global _) _=>true
 | .load _ (.global _)=>true
 | _=>false
def Hf (P:Program) (ts:Array TypeId) (K:Value→TypeInfo→Prop):Prop:=
 match ts.toList with
 | t::_=>(match P.underlying t with
   | some (.slice e)=>(match P.info? e with
     | some i=>(match i.zero with|some z=>if okV z=true then K z i else False|none=>False)
     | none=>False)
   | _=>False)
 | _=>False
theorem FX {ts:Array TypeId}{K:Value→TypeInfo→Prop}(k:Hf P ts K):∃ t e i z,ts[0]?=some t∧P.underlying t=some (.slice e)∧P.info? e=some i∧i.zero=some z∧okV z=true∧K z i:=by
 unfold Hf at k
 split at k
 ·rename_i t rest ht
  split at k
  ·split at k
   ·split at k
    ·split at k
     ·refine⟨t,_,_,_,?_,by assumption,by assumption,by assumption,by assumption,k⟩
      rw[← Array.getElem?_toList,ht];rfl
     ·exact k.elim
    ·exact k.elim
   ·exact k.elim
  ·exact k.elim
 ·exact k.elim
theorem Kb {ts:Array TypeId}{K K':Value→TypeInfo→Prop}(hk:∀ z i,K z i→K' z i) (k:Hf P ts K):Hf P ts K':=by
 unfold Hf at *
 split at k
 ·split at k
  ·split at k
   ·split at k
    ·split at k
     ·rename_i h;rw[if_pos h];exact hk _ _ k
     ·exact k.elim
    ·exact k.elim
   ·exact k.elim
  ·exact k.elim
 ·exact k.elim
def xY (P:Program) (env:Env) (h:ae) (o:Oper) (K:QT):Prop:=
 match o.op with
 | .call c=>match c.callee with
   | .value (.func f)=>d6 (lq env c.args.toList) fun vs=>(match NC P f with|some e=>YU e vs fun r=>K r h|none=>False)
   | .builtin .copy=>d6 (lq env c.args.toList) fun vs=>Hf P c.argTypes fun _ i=>(match vs with|[v,x]=>acS i.size v x h K|_=>False)
   | .builtin .clear=>d6 (lq env c.args.toList) fun vs=>Hf P c.argTypes fun z i=>(match vs with|[v]=>acs i.size (ofV z) v h fun h'=>K (.tup []) h'|_=>False)
   | _=>False
 | .indexAddr t (.global g) i=>(match Tabs.tab g with
   | some cs=>bW (opv env i) fun iv=>eF P t (.cptr cs) iv fun r=>K r h
   | none=>False)
 | .load t (.global g)=>(match Tabs.tab g with
   | some cs=>kY P t (.cptr cs) h fun r=>K r h
   | none=>False)
 | _=>False
def aop (P:Program) (env:Env) (h:ae) (o:Oper) (K:QT):Prop:=if isX P o.op=true then xY P env h o K else wY P env h o K
theorem TY (s:Sim G h w) {g:Nat}{cs:List AV}(hg:Tabs.tab g=some cs) (a:Act):Rep G (.cptr cs) (a.eval (.global g)):=by
 simp only[Act.eval,Rep]
 exact⟨g,0,rfl,Tabs.tab_ok G g cs s.tab hg⟩
theorem abi (s:Sim G h w) {env:Env}{a:Act}(r:EnvRep G env a.tmps) {o:Oper}{K:QT}(k:xY P env h o K):UpV P (N0 G h w K) ((execOp a.eval o).run P w):=by
 obtain⟨dst,op,ty,pos,after,guard⟩:=o
 cases op<;>simp only[xY]at k<;>try exact k.elim
 case call c=>
  obtain⟨callee,args,argTypes⟩:=c
  simp only at k
  split at k
  ·rename_i f
   obtain⟨vs,h1,k⟩:=dI k
   split at k
   ·rename_i e he
    have hr:=jA r h1
    obtain⟨rr,v,q1,q2,q3⟩:=aaw (w:=w) (xs:=args.map a.eval) he (by simpa using hr) k.out
    simp only[execOp,resolve,Deferred.ofValue,Act.eval,Sem.run_bind,Sem.run_pure,Result.andThen_ok,invoke,Array.append_empty,Array.empty_append]
    rw[q1]
    exact⟨rr,h,G,q2,q3,s,Evo.refl _ _ _⟩
   ·exact k.elim
  ·obtain⟨vs,h1,k⟩:=dI k
   obtain⟨t,e,i,z,ht0,ht,hi,hz,hzo,k2⟩:=FX k
   have hr:=jA r h1
   clear k
   split at k2
   ·rename_i v u
    obtain⟨x,y,hx,hx2,hx3⟩:=(show RepL G [v,u] (args.map a.eval).toList by simpa using hr).two
    have hargs:args.map a.eval=#[x,y]:=by apply Array.toList_inj.1;simpa using hx
    obtain⟨r',v',h',G',w',q1,q2,q3,q4,q5⟩:=Zq (ty:=ty) s ht0 ht hi hx2 hx3 k2.out
    simp only[execOp,resolve,Sem.run_bind,Sem.run_pure,Result.andThen_ok,invoke,builtin,hargs,q1]
    exact⟨r',h',G',q2,q3,q4,q5⟩
   ·exact k2.elim
  ·obtain⟨vs,h1,k⟩:=dI k
   obtain⟨t,e,i,z,ht0,ht,hi,hz,hzo,k2⟩:=FX k
   have hr:=jA r h1
   clear k
   split at k2
   ·rename_i v
    obtain⟨x,hx,hx2⟩:=(show RepL G [v] (args.map a.eval).toList by simpa using hr).single
    have hargs:args.map a.eval=#[x]:=by apply Array.toList_inj.1;simpa using hx
    obtain⟨r',v',h',G',w',q1,q2,⟨rfl,q3⟩,q4,q5⟩:=Vo (ty:=ty) s ht0 ht hi hz hx2 (rX G z hzo) k2.out
    simp only[execOp,resolve,Sem.run_bind,Sem.run_pure,Result.andThen_ok,invoke,builtin,hargs,q1]
    exact⟨_,h',G',q2,q3,q4,q5⟩
   ·exact k2.elim
  ·exact k.elim
 case indexAddr t x i=>
  cases x<;>simp only at k<;>try exact k.elim
  split at k
  ·rename_i cs hg
   obtain⟨iv,h1,k⟩:=aH k
   have hx:=TY s hg a
   unfold eF at k
   split at k
   ·split at k
    ·exact bd s (zq ‹_› ‹_› hx (aP r h1) k.out)
    ·exact k.elim
   ·split at k
    ·exact bd s (wX ‹_› ‹_› hx (aP r h1) k.out)
    ·exact k.elim
   ·exact k.elim
  ·exact k.elim
 case load t x=>
  cases x<;>simp only at k<;>try exact k.elim
  split at k
  ·rename_i cs hg
   have hx:=TY s hg a
   unfold kY at k
   split at k
   ·split at k
    ·exact bd s (DR s ‹_› ‹_› ‹_› hx k.out)
    ·rename_i hd;exact bd s (C5 s ‹_› (by simpa using hd) hx k.out)
   ·exact k.elim
  ·exact k.elim
theorem VD {env:Env}{h:ae}{o:Oper}{K K':QT}(hk:∀ v h,K v h→K' v h) (k:xY P env h o K):xY P env h o K':=by
 obtain⟨dst,op,ty,pos,after,guard⟩:=o
 cases op<;>simp only[xY]at k ⊢<;>try exact k.elim
 case call c=>
  split at k
  ·refine fx (fun _ k=>?_) _ k
   split at k
   ·exact⟨DE (fun r k=>hk r h k) k.out⟩
   ·exact k.elim
  ·refine fx (fun _ k=>Kb (fun z i k=>?_) k) _ k
   split at k
   ·exact⟨Q5 hk k.out⟩
   ·exact k.elim
  ·refine fx (fun _ k=>Kb (fun z i k=>?_) k) _ k
   split at k
   ·exact⟨QP (fun h k=>hk _ h k) k.out⟩
   ·exact k.elim
  ·exact k.elim
 case indexAddr t x i=>
  cases x<;>simp only at k ⊢<;>try exact k.elim
  split at k
  ·refine bk (fun _ k=>?_) _ k
   unfold eF at *
   (repeat' split at k)<;>first
    | exact k.elim
    | exact iM (fun r k=>hk r h k) _ _ _ k
    | exact fc (fun r k=>hk r h k) _ _ _ _ k
  ·exact k.elim
 case load t x=>
  cases x<;>simp only at k ⊢<;>try exact k.elim
  split at k
  ·unfold kY at *
   split at k
   ·split at k
    ·rename_i hd;rw[if_pos hd];exact ic (fun r k=>hk r h k) _ _ _ k
    ·rename_i hd;rw[if_neg hd];exact ib (fun r k=>hk r h k) _ _ k
   ·exact k.elim
  ·exact k.elim
theorem Y0 (s:Sim G h w) {env:Env}{a:Act}(r:EnvRep G env a.tmps) {o:Oper}{K:QT}(k:aop P env h o K):UpV P (N0 G h w K) ((execOp a.eval o).run P w):=by
 unfold aop at k
 split at k
 ·exact abi s r k
 ·exact aad s r k
theorem k7 {env:Env}{h:ae}{o:Oper}{K K':QT}(hk:∀ v h,K v h→K' v h) (k:aop P env h o K):aop P env h o K':=by
 unfold aop at *
 split at k
 ·rename_i hn;rw[if_pos hn];exact VD hk k
 ·rename_i hn;rw[if_neg hn];exact Wl hk k
end
end
section
variable [Tabs]
section
variable {P:Program}{G:Gh}{h:ae}{w:World}{n:Nat}
def putD (env:Env) (d:Option Tmp) (v:AV):Env:=match d with|some d=>(d,v)::env|none=>env
def fG (n:Nat) (d:Option Tmp):Bool:=match d with|some d=>decide (d<n)|none=>true
theorem EnvRep.putD {env:Env}{a:Act}(r:EnvRep G env a.tmps) {d:Option Tmp}(hd:fG a.tmps.size d=true) {v:AV}{x:Value}(hx:Rep G v x):EnvRep G (putD env d v) (a.put d x).tmps:=by
 cases d with
 | none=>exact r
 | some d=>exact r.put (by simpa [fG] using hd) hx
theorem put_size (a:Act) (d:Option Tmp) (x:Value):(a.put d x).tmps.size=a.tmps.size:=by cases d<;>simp[Act.put]
theorem put_defers (a:Act) (d:Option Tmp) (x:Value):(a.put d x).defers=a.defers:=by cases d<;>simp[Act.put]
def qA (P:Program) (n:Nat) (env:Env) (h:ae) (o:Oper) (K:Env→ae→Prop):Prop:=
 if fG n o.dst=true then aop P env h o fun v h'=>K (putD env o.dst v) h' else False
def ifT (v:AV) (X Y Z:Prop):Prop:=match v with|.tup []=>Z|_=>ifB v X Y
def ifG (g:Bool) (v:AV) (X Y Z:Prop):Prop:=match g with|true=>ifT v X Y Z|false=>ifB v X Y
def VG (ops:Array Oper) (j:Nat):Bool:=match ops[j]? with|some o=>o.guard.isSome|none=>false
omit [Tabs] in
theorem JX {v:AV}{X Y:Prop}(k:ifB v X Y):(v=B true∧X)∨(v=B false∧Y):=by
 unfold ifB at k;split at k
 ·exact .inl ⟨rfl,k⟩
 ·exact .inr ⟨rfl,k⟩
 ·exact k.elim
omit [Tabs] in
theorem J0 {g:Bool}{v:AV}{X Y Z:Prop}(k:ifG g v X Y Z):(v=B true∧X)∨(v=B false∧Y)∨(v=.tup []∧Z):=by
 unfold ifG at k;split at k
 ·unfold ifT at k;split at k
  ·exact .inr (.inr ⟨rfl,k⟩)
  ·exact (JX k).elim .inl fun h=>.inr (.inl h)
 ·exact (JX k).elim .inl fun h=>.inr (.inl h)
theorem Pa {g:Bool}{v:AV}{X Y Z X' Y' Z':Prop}(hx:X→X') (hy:Y→Y') (hz:Z→Z') (k:ifG g v X Y Z):ifG g v X' Y' Z':=by
 unfold ifG at *
 split at k
 ·unfold ifT at *;split at k
  ·exact hz k
  ·exact Cn hx hy k
 ·exact Cn hx hy k
omit [Tabs] in
theorem Tn {g:Bool}{X Y Z:Prop}(k:X):ifG g (B true) X Y Z:=by cases g<;>exact k
omit [Tabs] in
theorem Ua {g:Bool}{X Y Z:Prop}(k:Y):ifG g (B false) X Y Z:=by cases g<;>exact k
def jG (P:Program) (n:Nat) (ops:Array Oper):List Nat→Env→ae→(Env→ae→Prop)→Prop
 | [],env,h,K=>K env h
 | i::rest,env,h,K=>match ops[i]? with
   | none=>False
   | some o=>match o.guard with
     | none=>qA P n env h o fun env' h'=>jG P n ops rest env' h' K
     | some (j,want)=>match (ops[j]?).bind (·.dst) with
       | none=>False
       | some s=>bW (get env s) fun v=>
         ifG (VG ops j) v
          (if want=true then qA P n ((s,B true)::env) h o fun env' h'=>jG P n ops rest env' h' K
           else if fG n o.dst=true then jG P n ops rest (putD ((s,B true)::env) o.dst (.tup [])) h K else False)
          (if want=true then (if fG n o.dst=true then jG P n ops rest (putD ((s,B false)::env) o.dst (.tup [])) h K else False)
           else qA P n ((s,B false)::env) h o fun env' h'=>jG P n ops rest env' h' K)
          (if fG n o.dst=true then jG P n ops rest (putD ((s,.tup [])::env) o.dst (.tup [])) h K else False)
def LL (G:Gh) (h:ae) (w:World) (n:Nat) (D:List Deferred) (K:Env→ae→Prop) (a:Act) (w':World):Prop:=
 ∃ env' h' G',K env' h'∧Sim G' h' w'∧Evo G h w G' h' w'∧EnvRep G' env' a.tmps∧a.tmps.size=n∧a.defers=D
theorem NA {o:Oper}{env:Env}{K:Env→ae→Prop}{a:Act}{Q:Exit→Act→World→Prop}{next:Act→World→Prop}(s:Sim G h w) (hn:a.tmps.size=n) (r:EnvRep G env a.tmps) (k:qA P n env h o K)
  (hnext:∀ a' w',LL G h w n a.defers K a' w'→next a' w'):o.wp P a w next Q:=by
 unfold qA at k
 split at k
 ·rename_i hd
  unfold Oper.wp
  refine EB ?_
  have:=Y0 s r k
  unfold UpV at this ⊢
  have conv:∀ v w',N0 G h w (fun v h'=>K (putD env o.dst v) h') v w'→next (a.put o.dst v) w':=fun v w' ⟨rr,h',G',q1,q2,q3,q4⟩=>by
   refine hnext _ _ ⟨_,h',G',q2,q3,q4,(r.mono q4.le).putD (by rw[hn];exact hd) q1,by rw[put_size,hn],put_defers _ _ _⟩
  split at this
  ·exact conv _ _ this
  ·exact conv _ _ this
  ·exact Calls.mono this fun e w'' ⟨v,he,hv⟩=>⟨v,he,conv _ _ hv⟩
  ·exact this.elim
 ·exact k.elim
theorem xq {env:Env}{tmps:Array Value}(r:EnvRep G env tmps) {s:Nat}{v:AV}(h:get env s=some v):EnvRep G ((s,v)::env) tmps:=fun k a e=>by
 simp only[get]at e
 split at e
 ·rename_i hk;subst hk;cases e;exact r _ _ h
 ·exact r k a e
theorem vt {ops:Array Oper}{o:Oper}{j:Nat}{want b:Bool}{s:Nat}{env:Env}{a:Act}(hg:o.guard=some (j,want)) (hs:(ops[j]?).bind (·.dst)=some s) (r:EnvRep G env a.tmps) (hv:get env s=some (B b)):
  Region.wanted o (yielded ops a.tmps)=(b==want):=by
 obtain⟨x,h1,h2⟩:=r s _ hv
 simp only[Rep]at h2
 obtain⟨rfl,_⟩:=h2
 have hy:yielded ops a.tmps j=some b:=by
  unfold yielded
  simp only[hs]
  simp[Array.getD_eq_getD_getElem?,h1]
 simp only[Region.wanted,hg,hy]
 cases b<;>cases want<;>rfl
theorem BH {ops:Array Oper}{o:Oper}{j:Nat}{want:Bool}{s:Nat}{env:Env}{a:Act}(hg:o.guard=some (j,want)) (hs:(ops[j]?).bind (·.dst)=some s) (r:EnvRep G env a.tmps) (hv:get env s=some (.tup [])):
  Region.wanted o (yielded ops a.tmps)=false:=by
 obtain⟨x,h1,h2⟩:=r s _ hv
 simp only[Rep]at h2
 obtain⟨vs,rfl,h3⟩:=h2
 have hy:yielded ops a.tmps j=none:=by
  unfold yielded
  simp only[hs]
  simp[Array.getD_eq_getD_getElem?,h1]
 simp only[Region.wanted,hg,hy]
 rfl
theorem H8 (ops:Array Oper) (Q:Exit→Act→World→Prop):∀ (l:List Nat) (env:Env) (h:ae) (G:Gh) (w:World) (a:Act) (K:Env→ae→Prop),Sim G h w→a.tmps.size=n→EnvRep G env a.tmps→jG P n ops l env h K→
  (∀ a' w',LL G h w n a.defers K a' w'→Q .normal a' w')→wpOps P ops Q l a w
 | [],env,h,G,w,a,K,s,hn,r,k,hq=>hq a w ⟨env,h,G,k,s,Evo.refl _ _ _,r,hn,rfl⟩
 | i::rest,env,h,G,w,a,K,s,hn,r,k,hq=>by
   unfold jG at k
   unfold wpOps
   split at k
   ·exact k.elim
   ·rename_i o ho
    simp only[ho]
    have go:∀ {env:Env},EnvRep G env a.tmps→qA P n env h o (fun env' h'=>jG P n ops rest env' h' K)→o.wp P a w (wpOps P ops Q rest) Q:=fun r k=>
     NA s hn r k fun a' w' ⟨env',h',G',q1,q2,q3,q4,q5,q6⟩=>
      H8 ops Q rest env' h' G' w' a' K q2 q5 q4 q1 fun a2 w2 ⟨env2,h2,G2,p1,p2,p3,p4,p5,p6⟩=>hq a2 w2 ⟨env2,h2,G2,p1,p2,q3.trans p3,p4,p5,p6.trans q6⟩
    have skip:∀ {env:Env},EnvRep G env a.tmps→fG n o.dst=true→jG P n ops rest (putD env o.dst (.tup [])) h K→wpOps P ops Q rest (a.put o.dst undef) w:=fun r hd k=>
     H8 ops Q rest _ h G w _ K s (by rw[put_size,hn]) (r.putD (by rw[hn];exact hd) (by simp[Rep,RepL,undef])) k fun a2 w2 p=>hq a2 w2 (by rwa [put_defers]at p)
    split at k
    ·rename_i hg
     have:Region.wanted o (yielded ops a.tmps)=true:=by simp[Region.wanted,hg]
     rw[if_pos this]
     exact .inl (go r k)
    ·rename_i j want hg
     split at k
     ·exact k.elim
     ·rename_i sl hsl
      obtain⟨v,hv,k⟩:=aH k
      replace k:=J0 k
      rcases k with ⟨rfl,k⟩|⟨rfl,k⟩|⟨rfl,k⟩
      ·have r':=xq r hv
       have hw:=vt hg hsl r hv
       rw[hw]
       cases want
       ·simp only[Bool.false_eq_true,if_false]at k
        rw[if_neg (by simp)]
        split at k
        ·exact skip r' ‹_› k
        ·exact k.elim
       ·simp only[if_true]at k
        rw[if_pos (by simp)]
        exact .inl (go r' k)
      ·have r':=xq r hv
       have hw:=vt hg hsl r hv
       rw[hw]
       cases want
       ·simp only[Bool.false_eq_true,if_false]at k
        rw[if_pos (by simp)]
        exact .inl (go r' k)
       ·simp only[if_true]at k
        rw[if_neg (by simp)]
        split at k
        ·exact skip r' ‹_› k
        ·exact k.elim
      ·have r':=xq r hv
       rw[BH hg hsl r hv]
       rw[if_neg (by simp)]
       split at k
       ·exact skip r' ‹_› k
       ·exact k.elim
theorem HI {id:Nat}{ops:Array Oper}{env:Env}{K:Exit→Env→ae→Prop}(k:jG P n ops (List.range ops.size) env h fun env' h'=>K .normal env' h'):AWp P n (.region id ops false) env h K:=
 fun G w a s hn r=>wp_region (H8 ops _ _ env h G w a _ s hn r k fun a' w' p=>p)
theorem Qu {c:Operand}{x y:Code}{env:Env}{K:Exit→Env→ae→Prop}(k:bW (opv env c) fun v=>ifB v (AWp P n x env h K) (AWp P n y env h K)):AWp P n (.cond c x y) env h K:=by
 intro G w a s hn r
 obtain⟨v,hv,k⟩:=aH k
 have hr:=aP r hv
 unfold ifB at k
 split at k
 ·simp only[Rep]at hr
  exact wp_cond_true hr.1 (k G w a s hn r)
 ·simp only[Rep]at hr
  exact wp_cond_false hr.1 (k G w a s hn r)
 ·exact k.elim
def dy:Code→List Nat
 | .region _ ops _=>ops.toList.filterMap (·.dst)
 | .seq a b=>dy a++dy b
 | .cond _ a b=>dy a++dy b
 | .block _ b=>dy b
 | .loop b=>dy b
 | .scope b=>dy b
 | .rangeFunc _ _ a b=>dy a++dy b
 | _=>[]
def CA (o:Oper):List Nat:=o.op.operands.toList.filterMap fun|.tmp t=>some t|_=>none
def abw:List Nat→List Nat
 | []=>[]
 | x::xs=>if xs.contains x then abw xs else x::abw xs
def Fc (env:Env):List Nat→Option (List AV)
 | []=>some []
 | s::l=>match get env s,Fc env l with
   | some v,some vs=>some (v::vs)
   | _,_=>none
def iX (ws:List Nat) (env:Env):Env:=env.filter fun p=>!ws.contains p.1
theorem A9 {ws:List Nat}:∀ {env:Env}{s:Nat}{a:AV},get (iX ws env) s=some a→get env s=some a
 | [],s,a,e=>by simp[iX,get]at e
 | (k,v)::env,s,a,e=>by
   simp only[iX,List.filter_cons]at e
   split at e
   ·simp only[get]at e ⊢
    split
    ·rename_i hk;rw[if_pos hk]at e;exact e
    ·rename_i hk;rw[if_neg hk]at e;exact A9 e
   ·rename_i hc
    have ih:=A9 (ws:=ws) (env:=env) (s:=s) (a:=a) e
    simp only[get]
    split
    ·rename_i hk
     subst hk
     exfalso
     have:∀ env:Env,get (iX ws env) k=none:=fun env=>by
      induction env with
      | nil=>simp[iX,get]
      | cons p env ih=>
        simp only[iX,List.filter_cons]
        split
        ·rename_i hp
         simp only[get]
         rw[if_neg (fun e=>by subst e;exact hc hp)]
         exact ih
        ·exact ih
     rw[show env.filter _=iX ws env from rfl,this]at e
     cases e
    ·exact ih
def aq (vs:List AV) (i:Nat):AV:=(vs[i]?).getD default
def mj (vs:List AV):Nat→List Nat→Env
 | _,[]=>[]
 | i,k::ks=>(k,aq vs i)::mj vs (i+1) ks
structure cc (vs:List AV) (h:ae) (B:List AV→ae→(NT)→Prop):Prop where
 mk::(out:∃ J:Nat→NT,(∃ k,J k vs h)∧∀ k vs h,J k vs h→B vs h fun vs' h'=>∃ m,m<k∧J m vs' h')
def acY (ws ks:List Nat) (body:Env→ae→(Exit→Env→ae→Prop)→Prop) (env:Env) (h:ae) (K:Exit→Env→ae→Prop):Prop:=
 d6 (Fc env ks) fun vs0=>cc vs0 h fun vs h next=>body (mj vs 0 ks++iX ws env) h fun e env' h'=>match e with
  | .normal=>d6 (Fc env' ks) fun vs'=>next vs' h'
  | e=>K e env' h'
abbrev Nl:=List (Nat×List Nat×List Nat)
def sF:Code→Nat
 | .region id _ _=>id+1
 | .seq a b=>match sF a with|0=>sF b|k=>k
 | .cond _ a b=>match sF a with|0=>sF b|k=>k
 | .block _ b=>sF b
 | .loop b=>sF b
 | .scope b=>sF b
 | _=>0
def S1:Nl→Nat→Option (List Nat×List Nat)
 | [],_=>none
 | (k,p)::r,i=>if k=i then some p else S1 r i
def SZ (c:Code) (ws ks:List Nat):Bool:=((dy c).all ws.contains&&ws.all (dy c).contains)&&ks.all ws.contains
theorem EG {c:Code}{ws ks:List Nat}(h:SZ c ws ks=true):(∀ s,s∈dy c→s∈ws)∧(∀ s,s∈ws→s∈dy c)∧∀ s,s∈ks→s∈ws:=by
 simp only[SZ,Bool.and_eq_true,List.all_eq_true]at h
 exact⟨fun s hs=>by simpa using h.1.1 s hs,fun s hs=>by simpa using h.1.2 s hs,fun s hs=>by simpa using h.2 s hs⟩
end
end
section
variable [Tabs]
section
variable {P:Program}
theorem Xh {K:AV→Prop}(op:BinOp) (x y:AV) (k:Fb op x y K):∃ v,K v∧Fb op x y fun r=>r=v:=by
 unfold Fb at *
 (repeat' split at k)<;>first|exact k.elim|exact⟨_,k,rfl⟩|exact⟨_,k.2,k.1,rfl⟩|exact⟨_,k.2.2,k.1,k.2.1,rfl⟩|(refine⟨_,k,?_⟩;simp_all;done)|(refine⟨_,k.2,?_⟩;simp_all;done)|(refine⟨_,k.2.2,?_⟩;simp_all;done)
theorem U9 {K:AV→Prop}(op:BinOp) (x y:AV) (k:xE op x y K):∃ v,K v∧xE op x y fun r=>r=v:=by
 unfold xE at *
 (repeat' split at k)<;>first|exact k.elim|exact⟨_,k,rfl⟩|exact⟨_,k.2,k.1,rfl⟩|exact⟨_,k.2.2,k.1,k.2.1,rfl⟩|(refine⟨_,k,?_⟩;simp_all;done)|(refine⟨_,k.2,?_⟩;simp_all;done)|(refine⟨_,k.2.2,?_⟩;simp_all;done)
theorem VP {K:AV→Prop}(op:BinOp) (x y:AV) (k:yd op x y K):∃ v,K v∧yd op x y fun r=>r=v:=by
 unfold yd at *
 (repeat' split at k)<;>first|exact k.elim|exact⟨_,k,rfl⟩|exact⟨_,k.2,k.1,rfl⟩|exact⟨_,k.2.2,k.1,k.2.1,rfl⟩|(refine⟨_,k,?_⟩;simp_all;done)|(refine⟨_,k.2,?_⟩;simp_all;done)|(refine⟨_,k.2.2,?_⟩;simp_all;done)
theorem Z6 {K:AV→Prop}(op:UnOp) (x:AV) (k:pUn op x K):∃ v,K v∧pUn op x fun r=>r=v:=by
 unfold pUn at *
 (repeat' split at k)<;>first|exact k.elim|exact⟨_,k,rfl⟩|exact⟨_,k.2,k.1,rfl⟩|exact⟨_,k.2.2,k.1,k.2.1,rfl⟩|(refine⟨_,k,?_⟩;simp_all;done)|(refine⟨_,k.2,?_⟩;simp_all;done)|(refine⟨_,k.2.2,?_⟩;simp_all;done)
theorem P6 {K:AV→Prop}(d:IntKind) (x:AV) (k:mO d x K):∃ v,K v∧mO d x fun r=>r=v:=by
 unfold mO at *
 (repeat' split at k)<;>first|exact k.elim|exact⟨_,k,rfl⟩|exact⟨_,k.2,k.1,rfl⟩|exact⟨_,k.2.2,k.1,k.2.1,rfl⟩|(refine⟨_,k,?_⟩;simp_all;done)|(refine⟨_,k.2,?_⟩;simp_all;done)|(refine⟨_,k.2.2,?_⟩;simp_all;done)
theorem NF {K:AV→Prop}(d:FloatKind) (x:AV) (k:mP d x K):∃ v,K v∧mP d x fun r=>r=v:=by
 unfold mP at *
 (repeat' split at k)<;>first|exact k.elim|exact⟨_,k,rfl⟩|exact⟨_,k.2,k.1,rfl⟩|exact⟨_,k.2.2,k.1,k.2.1,rfl⟩|(refine⟨_,k,?_⟩;simp_all;done)|(refine⟨_,k.2,?_⟩;simp_all;done)|(refine⟨_,k.2.2,?_⟩;simp_all;done)
theorem Ow {K:AV→Prop}(x:AV) (k:mo x K):∃ v,K v∧mo x fun r=>r=v:=by
 unfold mo at *
 (repeat' split at k)<;>first|exact k.elim|exact⟨_,k,rfl⟩|exact⟨_,k.2,k.1,rfl⟩|exact⟨_,k.2.2,k.1,k.2.1,rfl⟩|(refine⟨_,k,?_⟩;simp_all;done)|(refine⟨_,k.2,?_⟩;simp_all;done)|(refine⟨_,k.2.2,?_⟩;simp_all;done)
theorem WX {K:AV→Prop}(x:AV) (k:Jb x K):∃ v,K v∧Jb x fun r=>r=v:=by
 unfold Jb at *
 (repeat' split at k)<;>first|exact k.elim|exact⟨_,k,rfl⟩|exact⟨_,k.2,k.1,rfl⟩|exact⟨_,k.2.2,k.1,k.2.1,rfl⟩|(refine⟨_,k,?_⟩;simp_all;done)|(refine⟨_,k.2,?_⟩;simp_all;done)|(refine⟨_,k.2.2,?_⟩;simp_all;done)
theorem HW {K:AV→Prop}(n:Nat) (x:AV) (k:fA n x K):∃ v,K v∧fA n x fun r=>r=v:=by
 unfold fA at *
 (repeat' split at k)<;>first|exact k.elim|exact⟨_,k,rfl⟩|exact⟨_,k.2,k.1,rfl⟩|exact⟨_,k.2.2,k.1,k.2.1,rfl⟩|(refine⟨_,k,?_⟩;simp_all;done)|(refine⟨_,k.2,?_⟩;simp_all;done)|(refine⟨_,k.2.2,?_⟩;simp_all;done)
theorem Ru {K:AV→Prop}(n:Nat) (x:AV) (h:ae) (k:nB n x h K):∃ v,K v∧nB n x h fun r=>r=v:=by
 unfold nB at *
 (repeat' split at k)<;>first|exact k.elim|exact⟨_,k,rfl⟩|exact⟨_,k.2,k.1,rfl⟩|exact⟨_,k.2.2,k.1,k.2.1,rfl⟩|(refine⟨_,k,?_⟩;simp_all;done)|(refine⟨_,k.2,?_⟩;simp_all;done)|(refine⟨_,k.2.2,?_⟩;simp_all;done)
theorem R4 {K:AV→Prop}(x:AV) (h:ae) (k:mK x h K):∃ v,K v∧mK x h fun r=>r=v:=by
 unfold mK at *
 (repeat' split at k)<;>first|exact k.elim|exact⟨_,k,rfl⟩|exact⟨_,k.2,k.1,rfl⟩|exact⟨_,k.2.2,k.1,k.2.1,rfl⟩|(refine⟨_,k,?_⟩;simp_all;done)|(refine⟨_,k.2,?_⟩;simp_all;done)|(refine⟨_,k.2.2,?_⟩;simp_all;done)
theorem Sx {K:AV→Prop}(o n:Nat) (x:AV) (k:qD o n x K):∃ v,K v∧qD o n x fun r=>r=v:=by
 unfold qD at *
 (repeat' split at k)<;>first|exact k.elim|exact⟨_,k,rfl⟩|exact⟨_,k.2,k.1,rfl⟩|exact⟨_,k.2.2,k.1,k.2.1,rfl⟩|(refine⟨_,k,?_⟩;simp_all;done)|(refine⟨_,k.2,?_⟩;simp_all;done)|(refine⟨_,k.2.2,?_⟩;simp_all;done)
theorem Sd {K:AV→Prop}(o:Nat) (x:AV) (k:qO o x K):∃ v,K v∧qO o x fun r=>r=v:=by
 unfold qO at *
 (repeat' split at k)<;>first|exact k.elim|exact⟨_,k,rfl⟩|exact⟨_,k.2,k.1,rfl⟩|exact⟨_,k.2.2,k.1,k.2.1,rfl⟩|(refine⟨_,k,?_⟩;simp_all;done)|(refine⟨_,k.2,?_⟩;simp_all;done)|(refine⟨_,k.2.2,?_⟩;simp_all;done)
theorem N1 {K:AV→Prop}(x i:AV) (k:lx x i K):∃ v,K v∧lx x i fun r=>r=v:=by
 unfold lx at *
 (repeat' split at k)<;>first|exact k.elim|exact⟨_,k,rfl⟩|exact⟨_,k.2,k.1,rfl⟩|exact⟨_,k.2.2,k.1,k.2.1,rfl⟩|(refine⟨_,k,?_⟩;simp_all;done)|(refine⟨_,k.2,?_⟩;simp_all;done)|(refine⟨_,k.2.2,?_⟩;simp_all;done)
theorem G7 {K:AV→Prop}(n:Nat) (x i:AV) (k:dB n x i K):∃ v,K v∧dB n x i fun r=>r=v:=by
 unfold dB at *
 (repeat' split at k)<;>first|exact k.elim|exact⟨_,k,rfl⟩|exact⟨_,k.2,k.1,rfl⟩|exact⟨_,k.2.2,k.1,k.2.1,rfl⟩|(refine⟨_,k,?_⟩;simp_all;done)|(refine⟨_,k.2,?_⟩;simp_all;done)|(refine⟨_,k.2.2,?_⟩;simp_all;done)
theorem FF {K:AV→Prop}(m n:Nat) (x i:AV) (k:cT m n x i K):∃ v,K v∧cT m n x i fun r=>r=v:=by
 unfold cT at *
 (repeat' split at k)<;>first|exact k.elim|exact⟨_,k,rfl⟩|exact⟨_,k.2,k.1,rfl⟩|exact⟨_,k.2.2,k.1,k.2.1,rfl⟩|(refine⟨_,k,?_⟩;simp_all;done)|(refine⟨_,k.2,?_⟩;simp_all;done)|(refine⟨_,k.2.2,?_⟩;simp_all;done)
theorem N6 {K:AV→Prop}(x:AV) (a b:Option AV) (k:jl x a b K):∃ v,K v∧jl x a b fun r=>r=v:=by
 unfold jl at *
 (repeat' split at k)<;>first|exact k.elim|exact⟨_,k,rfl⟩|exact⟨_,k.2,k.1,rfl⟩|exact⟨_,k.2.2,k.1,k.2.1,rfl⟩|(refine⟨_,k,?_⟩;simp_all;done)|(refine⟨_,k.2,?_⟩;simp_all;done)|(refine⟨_,k.2.2,?_⟩;simp_all;done)
theorem Py {K:AV→Prop}(n:Nat) (x:AV) (a b:Option AV) (k:iC n x a b K):∃ v,K v∧iC n x a b fun r=>r=v:=by
 unfold iC at *
 (repeat' split at k)<;>first|exact k.elim|exact⟨_,k,rfl⟩|exact⟨_,k.2,k.1,rfl⟩|exact⟨_,k.2.2,k.1,k.2.1,rfl⟩|(refine⟨_,k,?_⟩;simp_all;done)|(refine⟨_,k.2,?_⟩;simp_all;done)|(refine⟨_,k.2.2,?_⟩;simp_all;done)
theorem PZ {K:AV→Prop}(x:AV) (k:mB x K):∃ v,K v∧mB x fun r=>r=v:=by
 unfold mB at *
 (repeat' split at k)<;>first|exact k.elim|exact⟨_,k,rfl⟩|exact⟨_,k.2,k.1,rfl⟩|exact⟨_,k.2.2,k.1,k.2.1,rfl⟩|(refine⟨_,k,?_⟩;simp_all;done)|(refine⟨_,k.2,?_⟩;simp_all;done)|(refine⟨_,k.2.2,?_⟩;simp_all;done)
theorem U6 {K:AV→Prop}(x:AV) (k:zC x K):∃ v,K v∧zC x fun r=>r=v:=by
 unfold zC at *
 (repeat' split at k)<;>first|exact k.elim|exact⟨_,k,rfl⟩|exact⟨_,k.2,k.1,rfl⟩|exact⟨_,k.2.2,k.1,k.2.1,rfl⟩|(refine⟨_,k,?_⟩;simp_all;done)|(refine⟨_,k.2,?_⟩;simp_all;done)|(refine⟨_,k.2.2,?_⟩;simp_all;done)
theorem Vu {K:AV→Prop}(x:AV) (k:zY x K):∃ v,K v∧zY x fun r=>r=v:=by
 unfold zY at *
 (repeat' split at k)<;>first|exact k.elim|exact⟨_,k,rfl⟩|exact⟨_,k.2,k.1,rfl⟩|exact⟨_,k.2.2,k.1,k.2.1,rfl⟩|(refine⟨_,k,?_⟩;simp_all;done)|(refine⟨_,k.2,?_⟩;simp_all;done)|(refine⟨_,k.2.2,?_⟩;simp_all;done)
theorem UA {K:AV→Prop}(x:AV) (h:ae) (k:yk x h K):∃ v,K v∧yk x h fun r=>r=v:=by
 unfold yk at *
 (repeat' split at k)<;>first|exact k.elim|exact⟨_,k,rfl⟩|exact⟨_,k.2,k.1,rfl⟩|exact⟨_,k.2.2,k.1,k.2.1,rfl⟩|(refine⟨_,k,?_⟩;simp_all;done)|(refine⟨_,k.2,?_⟩;simp_all;done)|(refine⟨_,k.2.2,?_⟩;simp_all;done)
theorem Nz {K:AV→Prop}(i:Nat) (x:AV) (k:iL i x K):∃ v,K v∧iL i x fun r=>r=v:=by
 unfold iL at *
 (repeat' split at k)<;>first|exact k.elim|exact⟨_,k,rfl⟩|exact⟨_,k.2,k.1,rfl⟩|exact⟨_,k.2.2,k.1,k.2.1,rfl⟩|(refine⟨_,k,?_⟩;simp_all;done)|(refine⟨_,k.2,?_⟩;simp_all;done)|(refine⟨_,k.2.2,?_⟩;simp_all;done)
theorem Yq {K:AV→Prop}(x y:AV) (k:FI x y K):∃ v,K v∧FI x y fun r=>r=v:=by
 unfold FI at *
 split at k
 ·exact⟨_,k,rfl⟩
 ·exact k.elim
theorem Yt {K:AV→Prop}(x y:AV) (k:FJ x y K):∃ v,K v∧FJ x y fun r=>r=v:=by
 unfold FJ at *
 split at k
 ·exact⟨_,k,rfl⟩
 ·exact k.elim
theorem SU {K:AV→Prop}(z:List AV) (ps:List (Nat×Nat×AV)) (k:pr z ps K):∃ v,K v∧pr z ps fun r=>r=v:=by
 unfold pr at *
 (repeat' split at k)<;>first|exact k.elim|exact⟨_,k,rfl⟩|exact⟨_,k.2,k.1,rfl⟩|exact⟨_,k.2.2,k.1,k.2.1,rfl⟩|(refine⟨_,k,?_⟩;simp_all;done)|(refine⟨_,k.2,?_⟩;simp_all;done)|(refine⟨_,k.2.2,?_⟩;simp_all;done)
theorem R5 {K:AV→Prop}(t:TypeId) (x:AV) (k:Dl t x K):∃ v,K v∧Dl t x fun r=>r=v:=⟨_,k,rfl⟩
theorem Fh {K:AV→Prop}(n m:Nat) (vs:List AV) (k:ie n m vs K):∃ v,K v∧ie n m vs fun r=>r=v:=⟨_,k.2,k.1,rfl⟩
theorem Zf {K:AV→Prop}(op:BinOp) (x y:AV) (k:ai op x y K):∃ v,K v∧ai op x y fun r=>r=v:=let ⟨v,h1,h2⟩:=Xh op x y k.out;⟨v,h1,⟨h2⟩⟩
theorem UK {K:AV→Prop}(op:BinOp) (x y:AV) (k:Ef op x y K):∃ v,K v∧Ef op x y fun r=>r=v:=let ⟨v,h1,h2⟩:=U9 op x y k.out;⟨v,h1,⟨h2⟩⟩
theorem VT {K:AV→Prop}(op:BinOp) (x y:AV) (k:Fa op x y K):∃ v,K v∧Fa op x y fun r=>r=v:=let ⟨v,h1,h2⟩:=VP op x y k.out;⟨v,h1,⟨h2⟩⟩
theorem aaO {K:AV→Prop}(op:UnOp) (x:AV) (k:qUn op x K):∃ v,K v∧qUn op x fun r=>r=v:=let ⟨v,h1,h2⟩:=Z6 op x k.out;⟨v,h1,⟨h2⟩⟩
theorem OC {K:AV→Prop}(d:IntKind) (x:AV) (k:ck d x K):∃ v,K v∧ck d x fun r=>r=v:=let ⟨v,h1,h2⟩:=P6 d x k.out;⟨v,h1,⟨h2⟩⟩
theorem OZ {K:AV→Prop}(d:FloatKind) (x:AV) (k:rS d x K):∃ v,K v∧rS d x fun r=>r=v:=let ⟨v,h1,h2⟩:=NF d x k.out;⟨v,h1,⟨h2⟩⟩
theorem PH {K:AV→Prop}(x:AV) (k:yW x K):∃ v,K v∧yW x fun r=>r=v:=let ⟨v,h1,h2⟩:=Ow x k.out;⟨v,h1,⟨h2⟩⟩
theorem Xe {K:AV→Prop}(x:AV) (k:aE x K):∃ v,K v∧aE x fun r=>r=v:=let ⟨v,h1,h2⟩:=WX x k.out;⟨v,h1,⟨h2⟩⟩
theorem Ix {K:AV→Prop}(n:Nat) (x:AV) (k:ab n x K):∃ v,K v∧ab n x fun r=>r=v:=let ⟨v,h1,h2⟩:=HW n x k.out;⟨v,h1,⟨h2⟩⟩
theorem HZ {K:AV→Prop}(n:Nat) (x:AV) (h:ae) (k:ap n x h K):∃ v,K v∧ap n x h fun r=>r=v:=let ⟨v,h1,h2⟩:=Ru n x h k.out;⟨v,h1,⟨h2⟩⟩
theorem F8 {K:AV→Prop}(x:AV) (h:ae) (k:af x h K):∃ v,K v∧af x h fun r=>r=v:=let ⟨v,h1,h2⟩:=R4 x h k.out;⟨v,h1,⟨h2⟩⟩
theorem Ta {K:AV→Prop}(o n:Nat) (x:AV) (k:Dp o n x K):∃ v,K v∧Dp o n x fun r=>r=v:=let ⟨v,h1,h2⟩:=Sx o n x k.out;⟨v,h1,⟨h2⟩⟩
theorem Sv {K:AV→Prop}(o:Nat) (x:AV) (k:Dc o x K):∃ v,K v∧Dc o x fun r=>r=v:=let ⟨v,h1,h2⟩:=Sd o x k.out;⟨v,h1,⟨h2⟩⟩
theorem Ps {K:AV→Prop}(x i:AV) (k:bj x i K):∃ v,K v∧bj x i fun r=>r=v:=let ⟨v,h1,h2⟩:=N1 x i k.out;⟨v,h1,⟨h2⟩⟩
theorem ww {K:AV→Prop}(n:Nat) (x i:AV) (k:an n x i K):∃ v,K v∧an n x i fun r=>r=v:=let ⟨v,h1,h2⟩:=G7 n x i k.out;⟨v,h1,⟨h2⟩⟩
theorem vW {K:AV→Prop}(m n:Nat) (x i:AV) (k:cg m n x i K):∃ v,K v∧cg m n x i fun r=>r=v:=let ⟨v,h1,h2⟩:=FF m n x i k.out;⟨v,h1,⟨h2⟩⟩
theorem OH {K:AV→Prop}(x:AV) (a b:Option AV) (k:bl x a b K):∃ v,K v∧bl x a b fun r=>r=v:=let ⟨v,h1,h2⟩:=N6 x a b k.out;⟨v,h1,⟨h2⟩⟩
theorem OY {K:AV→Prop}(n:Nat) (x:AV) (a b:Option AV) (k:lu n x a b K):∃ v,K v∧lu n x a b fun r=>r=v:=let ⟨v,h1,h2⟩:=Py n x a b k.out;⟨v,h1,⟨h2⟩⟩
theorem NV {K:AV→Prop}(x:AV) (k:CJ x K):∃ v,K v∧CJ x fun r=>r=v:=let ⟨v,h1,h2⟩:=PZ x k.out;⟨v,h1,⟨h2⟩⟩
theorem Wm {K:AV→Prop}(x:AV) (k:bJ x K):∃ v,K v∧bJ x fun r=>r=v:=let ⟨v,h1,h2⟩:=U6 x k.out;⟨v,h1,⟨h2⟩⟩
theorem WE {K:AV→Prop}(x:AV) (k:aX x K):∃ v,K v∧aX x fun r=>r=v:=let ⟨v,h1,h2⟩:=Vu x k.out;⟨v,h1,⟨h2⟩⟩
theorem WJ {K:AV→Prop}(x:AV) (h:ae) (k:CK x h K):∃ v,K v∧CK x h fun r=>r=v:=let ⟨v,h1,h2⟩:=UA x h k.out;⟨v,h1,⟨h2⟩⟩
theorem L7 {K:AV→Prop}(i:Nat) (x:AV) (k:am i x K):∃ v,K v∧am i x fun r=>r=v:=let ⟨v,h1,h2⟩:=Nz i x k.out;⟨v,h1,⟨h2⟩⟩
theorem ZF {K:AV→Prop}(x y:AV) (k:CQ x y K):∃ v,K v∧CQ x y fun r=>r=v:=let ⟨v,h1,h2⟩:=Yq x y k.out;⟨v,h1,⟨h2⟩⟩
theorem XI {K:AV→Prop}(x y:AV) (k:GD x y K):∃ v,K v∧GD x y fun r=>r=v:=let ⟨v,h1,h2⟩:=Yt x y k.out;⟨v,h1,⟨h2⟩⟩
theorem RM {K:AV→Prop}(z:List AV) (ps:List (Nat×Nat×AV)) (k:ay z ps K):∃ v,K v∧ay z ps fun r=>r=v:=let ⟨v,h1,h2⟩:=SU z ps k.out;⟨v,h1,⟨h2⟩⟩
theorem RJ {K:AV→Prop}(t:TypeId) (x:AV) (k:xj t x K):∃ v,K v∧xj t x fun r=>r=v:=let ⟨v,h1,h2⟩:=R5 t x k.out;⟨v,h1,⟨h2⟩⟩
theorem Fj {K:AV→Prop}(n m:Nat) (vs:List AV) (k:ao n m vs K):∃ v,K v∧ao n m vs fun r=>r=v:=let ⟨v,h1,h2⟩:=Fh n m vs k.out;⟨v,h1,⟨h2⟩⟩
