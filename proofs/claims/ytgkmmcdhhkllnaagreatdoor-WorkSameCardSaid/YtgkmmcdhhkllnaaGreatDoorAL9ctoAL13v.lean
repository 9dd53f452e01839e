import Derived.Test.YtgkmmcdhhkllnaaGreatDoorAL1toAL8n
import Derived.Laws.IdiomStrings
import Derived.Laws.BytesArg
import Derived.Laws.MakeOwn
import Derived.Laws.StructEq
import Derived.Laws.Externs
import Derived.Lib.Bytealg
set_option linter.all false
set_option autoImplicit true
set_option relaxedAutoImplicit true
set_option maxRecDepth 100000
namespace Go.Proofs.YtgkmmcdhhkllnaaGreatDoor.AL
section
variable [Tabs]
section
variable {P:Program}{G:Gh}{h:ae}{w:World}
def yX:List AV→Option (List UInt8)
 | []=>some []
 | .lit (.int .u8 n)::r=>match yX r with|some l=>some (UInt8.ofNat n.toNat::l)|none=>none
 | _=>none
theorem EQ:∀ {xs:List AV}{vs:List Value}{l:List UInt8},RepL G xs vs→yX xs=some l→∃ ns:List Int,vs=ns.map (Value.int .u8)∧l=ns.map fun n=>UInt8.ofNat n.toNat
 | [],vs,l,r,h=>by simp only[RepL]at r;simp only[yX,Option.some.injEq]at h;subst r;subst h;exact⟨[],rfl,rfl⟩
 | a::xs,vs,l,r,h=>by
   simp only[RepL]at r
   obtain⟨v,ws,rfl,h1,h2⟩:=r
   unfold yX at h
   split at h
   ·rename_i hn;cases hn
   ·rename_i n r' hn
    cases hn
    split at h
    ·rename_i l' hl
     cases h
     obtain⟨ns,rfl,rfl⟩:=EQ h2 hl
     simp only[Rep]at h1
     exact⟨n::ns,by simp[h1.1],by simp⟩
    ·cases h
   ·cases h
def Ah:AV→Bool
 | .sl _ _ _ _=>true
 | .snap _ _=>true
 | .full _ _=>true
 | _=>false
def g9 (x:AV) (h:ae) (K:AV→Prop):Prop:=
 if Ah x=true then (match cu h 1 x with
  | some (_,xs)=>(match yX xs with|some l=>K (S ⟨l.toArray⟩)|none=>False)
  | none=>False) else False
theorem Vk {x:AV}{v:Value}(hx:Rep G x v) (hr:Ah x=true):∃ a l c,v=.slice a l c:=by
 cases x<;>simp[Ah]at hr<;>simp only[Rep]at hx
 ·obtain⟨b,o,c,ad,_,_,_,_,rfl⟩:=hx;exact⟨_,_,_,rfl⟩
 ·rcases hx with ⟨_,_,_,rfl⟩|⟨b,o,c,_,rfl,_⟩<;>exact⟨_,_,_,rfl⟩
 ·rcases hx with ⟨_,_,_,rfl⟩|⟨b,o,rfl,_⟩<;>exact⟨_,_,_,rfl⟩
theorem Me (s:Sim G h w) {src dst e:TypeId}(hs:P.underlying src=some (.slice e)) (he:P.underlying e=some (.int .u8)) (hd:P.underlying dst=some .string) {x:AV}{v:Value}(hx:Rep G x v) {K:AV→Prop}(k:g9 x h K):
  Yl P G w (convert src dst v) K:=by
 unfold g9 at k
 split at k
 ·rename_i hr
  split at k
  ·rename_i m xs hxs
   split at k
   ·rename_i l hl
    obtain⟨vs,q1,q2,q3,q4⟩:=nR (P:=P) s hx hxs
    obtain⟨ns,rfl,rfl⟩:=EQ q2 hl
    obtain⟨a,len,c,rfl⟩:=Vk hx hr
    refine⟨_,.string ⟨(ns.map fun n=>UInt8.ofNat n.toNat).toArray⟩,?_,by simp[Rep,Value.oneCell'],k⟩
    rw[run_convert_bytes_string w src dst e a len c hs he hd]
    have hlen:len=m:=by simpa [Builtin.lenOf] using q3
    subst hlen
    cases a with
    | none=>
      have:ns=[]:=by
       simp[Builtin.firstCells]at q4
       exact q4.symm ▸ rfl
      subst this
      simp[Conv.bytesToString];rfl
    | some a=>
      have hlc:(loadCells a len).run P w=.ok (ns.map (Value.int .u8)).toArray w:=by
       simpa [Builtin.firstCells] using q4
      rw[run_bytesToString w a len c ns hlc,foldl_push_bytes]
      congr 2
      apply ByteArray.ext
      simp[ByteArray.empty,ByteArray.emptyWithCapacity]
      rfl
   ·exact k.elim
  ·exact k.elim
 ·exact k.elim
def jZ (x:AV) (h:ae) (K:QT):Prop:=
 match x with
 | .lit (.string s)=>K (.sl h.length 0 s.size 1) (h++[.cells (s.data.toList.map fun b=>.lit (.int .u8 b.toNat))])
 | _=>False
theorem MZ (s:Sim G h w) {src dst e:TypeId}(hs:P.underlying src=some .string) (hd:P.underlying dst=some (.slice e)) (he:P.underlying e=some (.int .u8)) {x:AV}{v:Value}(hx:Rep G x v) {K:QT}(k:jZ x h K):
  Ye P G h w (convert src dst v) K:=by
 unfold jZ at k
 split at k
 ·rename_i str
  simp only[Rep]at hx
  obtain⟨rfl,_⟩:=hx
  obtain⟨sd,evd⟩:=s.drawn (w.drawn+1)
  have hge:str.size≤grownCap w str.size 0 e:=by simp only[grownCap,Question.cut];omega
  have hrun:=run_bytes_of_string (P:=P) w src dst e str hs hd he
  generalize grownCap w str.size 0 e=c at hge hrun
  have hsz:(bytesRow str c).size=c:=by
   have:str.data.size=str.size:=rfl
   simp only[bytesRow,Array.size_append,Array.size_map,Array.size_replicate];omega
  generalize hC:bytesRow str c=C at hrun hsz
  have x:ObjAt (G.add h.length (w.drew.heap.size,0) c) (w.drew.alloc (.cells C e (C.size,C.size+1))) h.length (.cells (str.data.toList.map fun b=>.lit (.int .u8 b.toNat))):=by
   refine⟨w.heap.size,0,C,e,C.size,C.size+1,by simp[Gh.add],?_,by omega,?_,?_,?_⟩
   ·show (w.heap.push _)[w.heap.size]?=_
    simp
   ·simp only[Gh.add,if_true,List.length_map,Array.length_toList];exact hge
   ·simp only[Gh.add,if_true,hsz];omega
   ·intro j a ha
    rw[List.getElem?_map]at ha
    cases hj:str.data.toList[j]? with
    | none=>rw[hj]at ha;cases ha
    | some b=>
      rw[hj]at ha
      simp only[Option.map_some,Option.some.injEq]at ha
      subst ha
      have hlt:j<str.data.toList.length:=(List.getElem?_eq_some_iff.1 hj).1
      refine⟨.int .u8 b.toNat,?_,by simp[Rep,Value.oneCell']⟩
      rw[← hC,Nat.zero_add]
      unfold bytesRow
      rw[Array.getElem?_append_left (by simpa using hlt)]
      have:str.data[j]?=some b:=by simpa using hj
      simp[this]
  obtain⟨s',ev⟩:=lx sd (.cells C e (C.size,C.size+1)) _ c x
  refine⟨_,_,_,_,_,hrun,?_,k,s',evd.trans ev⟩
  simp only[Rep]
  exact⟨w.heap.size,0,c,0,by simp[Gh.add],by simp[Gh.add],hge,fun _=>rfl,rfl⟩
 ·exact k.elim
def ix (bytes:Nat) (z l c:AV) (h:ae) (K:QT):Prop:=
 match l,c with
 | .lit (.int _ l),.lit (.int _ c)=>(0≤l∧l≤c∧(bytes:Int)*c≤1099511627776∧c≤1099511627776)∧K (.sl h.length 0 l.toNat 1) (h++[.cells (List.replicate c.toNat z)])
 | _,_=>False
theorem Jm (s:Sim G h w) {t e:TypeId}{i:TypeInfo}{z:Value}(ht:P.underlying t=some (.slice e)) (hi:P.info? e=some i) (hz:i.zero=some z) (h1:i.size=1) (hzo:z.oneCell'=true) {l c:AV}{lv cv:Value}(hl:Rep G l lv) (hc:Rep G c cv) {K:QT}
  (k:ix i.bytes (IQ z) l c h K):Ye P G h w (Instr.makeSlice t lv cv) K:=by
 unfold ix at k
 split at k
 ·rename_i kl l' kc c'
  obtain⟨⟨q1,q2,q3,q4⟩,k⟩:=k
  simp only[Rep]at hl hc
  obtain⟨rfl,_⟩:=hl
  obtain⟨rfl,_⟩:=hc
  have hrun:=run_make (P:=P) w t e i z ht hi hz kl kc l' c' q1 q2 (by omega) (by omega)
  rw[h1,Nat.mul_one]at hrun
  have hcells:∀ j,j<c'.toNat→(madeCells z.cells c'.toNat)[j]?=some z:=fun j hj=>by
   simp[madeCells,hj,vl hzo,Nat.mod_one]
  have x:ObjAt (G.add h.length (w.heap.size,0) c'.toNat) (w.alloc (.cells (madeCells z.cells c'.toNat) e)) h.length (.cells (List.replicate c'.toNat (IQ z))):=by
   refine⟨w.heap.size,0,madeCells z.cells c'.toNat,e,0,0,by simp[Gh.add],?_,by omega,?_,?_,?_⟩
   ·show (w.heap.push _)[w.heap.size]?=_
    simp
   ·simp[Gh.add]
   ·simp[Gh.add,size_madeCells]
   ·intro j a ha
    have hj:j<c'.toNat:=by have:=(List.getElem?_eq_some_iff.1 ha).1;simpa using this
    rw[List.getElem?_replicate,if_pos hj]at ha
    cases ha
    exact⟨z,by rw[Nat.zero_add];exact hcells j hj,Ih _ z hzo⟩
  obtain⟨s',ev⟩:=lx s (.cells (madeCells z.cells c'.toNat) e) _ c'.toNat x
  refine⟨_,_,_,_,_,hrun,?_,k,s',ev⟩
  simp only[Rep]
  exact⟨w.heap.size,0,c'.toNat,0,by simp[Gh.add],by simp[Gh.add],by omega,fun _=>rfl,rfl⟩
 ·exact k.elim
def mG (op:BinOp) (x:AV) (K:AV→Prop):Prop:=
 match op,x with
 | .eql,.map _=>K (B false)
 | .neq,.map _=>K (B true)
 | .eql,.lit (.map none)=>K (B true)
 | .neq,.lit (.map none)=>K (B false)
 | _,_=>False
def mM (op:BinOp) (x:AV) (K:AV→Prop):Prop:=
 match op,x with
 | .eql,.iface _ _=>K (B false)
 | .neq,.iface _ _=>K (B true)
 | .eql,.lit .nilIface=>K (B true)
 | .neq,.lit .nilIface=>K (B false)
 | _,_=>False
def m7 (op:BinOp) (x:AV) (K:AV→Prop):Prop:=
 match op,x with
 | .eql,.fn _ _ _=>K (B false)
 | .neq,.fn _ _ _=>K (B true)
 | .eql,.lit .nilFunc=>K (B true)
 | .neq,.lit .nilFunc=>K (B false)
 | _,_=>False
def po (op:BinOp) (b:Bool) (K:AV→Prop):Prop:=match op with|.eql=>K (B b)|.neq=>K (B !b)|_=>False
def oy (op:BinOp) (x:AV) (K:AV→Prop):Prop:=
 match x with
 | .sl _ _ _ _=>po op false K
 | .full n _=>if n=0 then po op true K∧po op false K else po op false K
 | .snap n _=>if n=0 then po op true K∧po op false K else po op false K
 | _=>False
theorem abC (G:Gh) (b:Bool):Rep G (B b) (.bool b):=by simp[Rep,Value.oneCell']
theorem jc {t:TypeId}{x y:Value}{b:Bool}(h:∀ d,(Op.equalIn (d+1) t x y).run P w=.ok b w):(Op.equal t x y).run P w=.ok b w:=h 9999
theorem ju {op:BinOp}{t:TypeId}{xo:Operand}{c x:Value}{b:Bool}{K:AV→Prop}(hg:eqGuard op t xo (.const c) x c=pure ())
  (h1:binOp .eql t x c=(do pure (.bool (← Op.equal t x c)))) (h2:binOp .neq t x c=(do pure (.bool (!(← Op.equal t x c))))) (he:(Op.equal t x c).run P w=.ok b w)
  (k:po op b K):Yl P G w (do eqGuard op t xo (.const c) x c;binOp op t x c) K:=by
 rw[hg]
 cases op<;>simp only[po]at k
 case eql=>exact⟨_,.bool b,by simp[h1,he],abC G _,k⟩
 case neq=>exact⟨_,.bool (!b),by simp[h2,he],abC G _,k⟩
theorem Q7 {t kt et:TypeId}(ht:P.underlying t=some (.map kt et)) {op:BinOp}{xo:Operand}{x:AV}{v:Value}(hx:Rep G x v) {K:AV→Prop}(k:mG op x K):Yl P G w (do eqGuard op t xo (.const (.map none)) v (.map none);binOp op t v (.map none)) K:=by
 have hg:∀ r,eqGuard op t xo (.const (.map none)) (.map r) (.map none)=pure ():=fun r=>by unfold eqGuard;split<;>rfl
 unfold mG at k
 split at k<;>try simp only[Rep]at hx
 ·obtain⟨b,_,rfl⟩:=hx
  exact ju (b:=false) (hg _) rfl rfl (jc fun d=>by simp[Op.equalIn,run_underlying ht]) k
 ·obtain⟨b,_,rfl⟩:=hx
  exact ju (b:=false) (hg _) rfl rfl (jc fun d=>by simp[Op.equalIn,run_underlying ht]) k
 ·obtain⟨rfl,_⟩:=hx
  exact ju (b:=true) (hg _) rfl rfl (jc fun d=>by simp[Op.equalIn,run_underlying ht]) k
 ·obtain⟨rfl,_⟩:=hx
  exact ju (b:=true) (hg _) rfl rfl (jc fun d=>by simp[Op.equalIn,run_underlying ht]) k
 ·exact k.elim
theorem R9 {t:TypeId}{ms:Array (String×TypeId)}(ht:P.underlying t=some (.interface ms)) {op:BinOp}{xo:Operand}{x:AV}{v:Value}(hx:Rep G x v) {K:AV→Prop}(k:mM op x K):Yl P G w (do eqGuard op t xo (.const .nilIface) v .nilIface;binOp op t v .nilIface) K:=by
 have hg:∀ u y,eqGuard op t xo (.const .nilIface) (.iface u y) .nilIface=pure ():=fun u y=>by unfold eqGuard;split<;>rfl
 have hg2:eqGuard op t xo (.const .nilIface) .nilIface .nilIface=pure ():=by
  unfold eqGuard
  split<;>first|rfl|(simp;done)
 unfold mM at k
 split at k<;>try simp only[Rep]at hx
 ·obtain⟨y,rfl,_⟩:=hx
  exact ju (b:=false) (hg _ _) rfl rfl (jc fun d=>by simp[Op.equalIn,run_underlying ht]) k
 ·obtain⟨y,rfl,_⟩:=hx
  exact ju (b:=false) (hg _ _) rfl rfl (jc fun d=>by simp[Op.equalIn,run_underlying ht]) k
 ·obtain⟨rfl,_⟩:=hx
  exact ju (b:=true) hg2 rfl rfl (jc fun d=>by simp[Op.equalIn,run_underlying ht]) k
 ·obtain⟨rfl,_⟩:=hx
  exact ju (b:=true) hg2 rfl rfl (jc fun d=>by simp[Op.equalIn,run_underlying ht]) k
 ·exact k.elim
theorem Se {t:TypeId}{a b:Array TypeId}{c:Bool}(ht:P.underlying t=some (.func a b c)) {op:BinOp}{xo:Operand}{x:AV}{v:Value}(hx:Rep G x v) {K:AV→Prop}(k:m7 op x K):Yl P G w (do eqGuard op t xo (.const .nilFunc) v .nilFunc;binOp op t v .nilFunc) K:=by
 have hg:∀ x,eqGuard op t xo (.const .nilFunc) x .nilFunc=pure ():=fun x=>by unfold eqGuard;split<;>first|rfl|(split<;>first|rfl|simp_all)
 unfold m7 at k
 split at k<;>try simp only[Rep]at hx
 ·obtain⟨y,z,rfl,_⟩:=hx
  exact ju (b:=false) (hg _) rfl rfl (jc fun d=>by simp[Op.equalIn,run_underlying ht]) k
 ·obtain⟨y,z,rfl,_⟩:=hx
  exact ju (b:=false) (hg _) rfl rfl (jc fun d=>by simp[Op.equalIn,run_underlying ht]) k
 ·obtain⟨rfl,_⟩:=hx
  exact ju (b:=true) (hg _) rfl rfl (jc fun d=>by simp[Op.equalIn,run_underlying ht]) k
 ·obtain⟨rfl,_⟩:=hx
  exact ju (b:=true) (hg _) rfl rfl (jc fun d=>by simp[Op.equalIn,run_underlying ht]) k
 ·exact k.elim
theorem R7 {t e:TypeId}(ht:P.underlying t=some (.slice e)) {op:BinOp}{xo:Operand}{x:AV}{v:Value}(hx:Rep G x v) {K:AV→Prop}(k:oy op x K):Yl P G w (do eqGuard op t xo (.const (.slice none 0 0)) v (.slice none 0 0);binOp op t v (.slice none 0 0)) K:=by
 have hg:∀ a b c,eqGuard op t xo (.const (.slice none 0 0)) (.slice a b c) (.slice none 0 0)=pure ():=fun a b c=>by unfold eqGuard;split<;>rfl
 have some_ok:∀ (a:Addr) (l c:Nat),po op false K→Yl P G w (do eqGuard op t xo (.const (.slice none 0 0)) (.slice (some a) l c) (.slice none 0 0);binOp op t (.slice (some a) l c) (.slice none 0 0)) K:=fun a l c k=>
  ju (b:=false) (hg _ _ _) rfl rfl (jc fun d=>by simp[Op.equalIn,run_underlying ht]) k
 have none_ok:po op true K→Yl P G w (do eqGuard op t xo (.const (.slice none 0 0)) (.slice none 0 0) (.slice none 0 0);binOp op t (.slice none 0 0) (.slice none 0 0)) K:=fun k=>
  ju (b:=true) (hg _ _ _) rfl rfl (jc fun d=>by simp[Op.equalIn,run_underlying ht]) k
 unfold oy at k
 split at k<;>try simp only[Rep]at hx
 ·obtain⟨b,o,c,ad,_,_,_,_,rfl⟩:=hx;exact some_ok _ _ _ k
 ·rcases hx with ⟨rfl,_,za,rfl⟩|⟨b,o,rfl,_⟩
  ·rw[if_pos rfl]at k
   cases za with
   | none=>exact none_ok k.1
   | some za=>exact some_ok _ _ _ k.2
  ·refine some_ok _ _ _ ?_
   split at k
   ·exact k.2
   ·exact k
 ·rcases hx with ⟨rfl,_,za,rfl⟩|⟨b,o,c,_,rfl,_⟩
  ·rw[if_pos rfl]at k
   cases za with
   | none=>exact none_ok k.1
   | some za=>exact some_ok _ _ _ k.2
  ·refine some_ok _ _ _ ?_
   split at k
   ·exact k.2
   ·exact k
 ·exact k.elim
end
end
section
variable [Tabs]
section
variable {P:Program}{G:Gh}{h:ae}{w:World}
def VI:TypeDesc→AV→AV→Option Bool
 | .bool,.lit (.bool a),.lit (.bool b)=>some (a==b)
 | .int _,.lit (.int j a),.lit (.int k b)=>if j=k then some (a==b) else none
 | .string,.lit (.string a),.lit (.string b)=>some (a==b)
 | _,_,_=>none
def mR:List TypeDesc→List AV→List AV→Option Bool
 | [],[],[]=>some true
 | d::ds,a::az,b::bs=>match VI d a b with
   | some x=>(match mR ds az bs with|some y=>some (x&&y)|none=>none)
   | none=>none
 | _,_,_=>none
def Ft (op:BinOp) (ds:List TypeDesc) (x y:AV) (K:AV→Prop):Prop:=
 match x,y with
 | .agg az,.agg bs=>(match mR ds az bs with|some b=>po op b K|none=>False)
 | _,_=>False
def yA (P:Program):List Field→Nat→Option (List TypeDesc)
 | [],_=>some []
 | f :: fs, k => if (f.offset == k && f.name != "_") = true then (match P.underlying f.type with
   | some .bool=>(yA P fs (k+1)).map (.bool::·)
   | some (.int j)=>(yA P fs (k+1)).map (.int j::·)
   | some .string=>(yA P fs (k+1)).map (.string::·)
   | _=>none) else none
theorem aby {d:TypeDesc}{a b:AV}{x y:Value}{r:Bool}(hx:Rep G a x) (hy:Rep G b y) (h:VI d a b=some r) {t:TypeId}(ht:P.underlying t=some d) (n:Nat):(Op.equalIn (n+1) t x y).run P w=.ok r w:=by
 unfold VI at h
 split at h
 ·simp only[Rep]at hx hy
  obtain⟨rfl,_⟩:=hx
  obtain⟨rfl,_⟩:=hy
  cases h
  simp[Op.equalIn,run_underlying ht]
 ·simp only[Rep]at hx hy
  obtain⟨rfl,_⟩:=hx
  obtain⟨rfl,_⟩:=hy
  split at h
  ·rename_i hk
   cases h
   subst hk
   simp[Op.equalIn,run_underlying ht]
  ·cases h
 ·simp only[Rep]at hx hy
  obtain⟨rfl,_⟩:=hx
  obtain⟨rfl,_⟩:=hy
  cases h
  simp[Op.equalIn,run_underlying ht]
 ·cases h
theorem QK {t:TypeId}{d:TypeDesc}(ht:P.underlying t=some d) (hd:mn d=false) {cs:Array Value}{k:Nat}{v:Value}(h:cs[k]?=some v):(part t cs k).run P w=.ok v w:=by
 simp[part,tH ht,hd,h]
theorem GH (n:Nat):∀ (fs:List Field) (k:Nat) (ds:List TypeDesc) (az bs:List AV) (xs ys:Array Value) (r:Bool),yA P fs k=some ds→RepL G az (xs.toList.drop k)→RepL G bs (ys.toList.drop k)→mR ds az bs=some r→
  (Op.eqFields (n+1) xs ys fs).run P w=.ok r w
 | [],k,ds,az,bs,xs,ys,r,hf,hx,hy,h=>by
   simp only[yA,Option.some.injEq]at hf
   subst hf
   unfold mR at h
   split at h
   ·cases h;simp[Op.eqFields]
   ·rename_i hn;cases hn
   ·cases h
 | f::fs,k,ds,az,bs,xs,ys,r,hf,hx,hy,h=>by
   simp only[yA]at hf
   split at hf
   ·rename_i hc
    simp only[Bool.and_eq_true,beq_iff_eq,bne_iff_ne,ne_eq]at hc
    have key:∀ (d:TypeDesc),P.underlying f.type=some d→mn d=false→(yA P fs (k+1)).map (d::·)=some ds→(Op.eqFields (n+1) xs ys (f::fs)).run P w=.ok r w:=by
     intro d hd hag hm
     cases hfs:yA P fs (k+1) with
     | none=>rw[hfs]at hm;cases hm
     | some ds'=>
       rw[hfs]at hm
       simp only[Option.map_some,Option.some.injEq]at hm
       subst hm
       unfold mR at h
       split at h
       ·rename_i hn;cases hn
       ·rename_i d' ds2 a az' b bs' hn
        cases hn
        split at h
        ·rename_i x hx1
         split at h
         ·rename_i y hy1
          cases h
          simp only[RepL]at hx hy
          obtain⟨v,vs,e1,r1,r2⟩:=hx
          obtain⟨u,us,e2,r3,r4⟩:=hy
          have hv:xs[k]?=some v:=by have:=congrArg (·[0]?) e1;simpa using this
          have hu:ys[k]?=some u:=by have:=congrArg (·[0]?) e2;simpa using this
          have hvs:vs=xs.toList.drop (k+1):=by have:=congrArg List.tail e1;simpa using this.symm
          have hus:us=ys.toList.drop (k+1):=by have:=congrArg List.tail e2;simpa using this.symm
          have ih:=GH n fs (k+1) ds' az' bs' xs ys y hfs (hvs ▸ r2) (hus ▸ r4) hy1
          simp only[Op.eqFields,Sem.run_bind,Sem.run_ite,hc.1]
          rw[if_pos (by simpa using hc.2)]
          simp only[QK hd hag hv,QK hd hag hu,Result.andThen_ok,aby r1 r3 hx1 hd n]
          cases x
          ·simp
          ·simpa using ih
         ·cases h
        ·cases h
       ·cases h
    split at hf
    ·exact key _ ‹_› rfl hf
    ·exact key _ ‹_› rfl hf
    ·exact key _ ‹_› rfl hf
    ·cases hf
   ·cases hf
theorem abo {t:TypeId}{fs:Array Field}{ds:List TypeDesc}(ht:P.underlying t=some (.struct fs)) (hf:yA P fs.toList 0=some ds) (hp:P.stoodInHeld t=false) (hm:P.eqGuardType P.depth t=false) {op:BinOp}{xo yo:Operand}{x y:AV}{a b:Value}(hx:Rep G x a) (hy:Rep G y b)
  {K:AV→Prop} (k:Ft op ds x y K):Yl P G w (do eqGuard op t xo yo a b;binOp op t a b) K:=by
 unfold Ft at k
 split at k
 ·rename_i az bs
  split at k
  ·rename_i r hr
   simp only[Rep]at hx hy
   obtain⟨vs,rfl,hx⟩:=hx
   obtain⟨us,rfl,hy⟩:=hy
   have hfo:P.fieldsOf t=fs:=by simp[Program.fieldsOf,ht]
   have he:∀ n,(Op.equalIn (n+2) t (.agg vs.toArray) (.agg us.toArray)).run P w=.ok r w:=fun n=>by
    rw[run_equalIn_struct w (n+1) t _ _ (by rw[hfo];exact ht) hp,hfo]
    exact GH n _ 0 ds az bs _ _ r hf (by simpa using hx) (by simpa using hy) hr
   have hg:=run_eqGuard_agg (P:=P) w op t xo yo vs.toArray us.toArray hm
   cases op<;>simp only[po]at k
   case eql=>exact⟨_,.bool r,by rw[Sem.run_bind,hg,Result.andThen_ok,run_eql_struct,he 9998];rfl,abC G _,k⟩
   case neq=>exact⟨_,.bool (!r),by rw[Sem.run_bind,hg,Result.andThen_ok,run_neq_struct,he 9998];rfl,abC G _,k⟩
  ·exact k.elim
 ·exact k.elim
end
end
section
variable [Tabs]
def zJ (v:AV) (K:AV→Prop):Prop:=match v with|.lit (.string s)=>K (I s.size)|_=>False
def zN (v:AV) (K:AV→Prop):Prop:=match v with|.sl _ _ len _=>K (I len)|.snap n _=>K (I n)|.full n _=>K (I n)|_=>False
def yn (v:AV) (h:ae) (K:AV→Prop):Prop:=match v with|.map i=>(match h[i]? with|some (.amap es _)=>K (I es.length)|_=>False)|_=>False
def ac6 (v:AV) (h:ae) (K:QT):Prop:=v.isTup=false∧Yz v.cells h K
structure ai (op:BinOp) (x y:AV) (K:AV→Prop):Prop where
 mk::(out:FL op x y K)
structure Kd (op:BinOp) (x y:AV) (K:AV→Prop):Prop where
 mk::(out:xK op x y K)
structure Eo (op:BinOp) (x y:AV) (K:AV→Prop):Prop where
 mk::(out:xX op x y K)
structure qUn (op:UnOp) (x:AV) (K:AV→Prop):Prop where
 mk::(out:pUn op x K)
structure cj (d:IntKind) (x:AV) (K:AV→Prop):Prop where
 mk::(out:m9 d x K)
structure sb (d:FloatKind) (x:AV) (K:AV→Prop):Prop where
 mk::(out:mL d x K)
structure yK (x:AV) (K:AV→Prop):Prop where
 mk::(out:mz x K)
structure aE (x:AV) (K:AV→Prop):Prop where
 mk::(out:Jn x K)
structure ab (n:Nat) (x:AV) (K:AV→Prop):Prop where
 mk::(out:fu n x K)
structure ap (n:Nat) (x:AV) (h:ae) (K:AV→Prop):Prop where
 mk::(out:nK n x h K)
structure af (x:AV) (h:ae) (K:AV→Prop):Prop where
 mk::(out:mU x h K)
structure Dp (o n:Nat) (x:AV) (K:AV→Prop):Prop where
 mk::(out:qM o n x K)
structure CU (o:Nat) (x:AV) (K:AV→Prop):Prop where
 mk::(out:qE o x K)
structure bl (x i:AV) (K:AV→Prop):Prop where
 mk::(out:lC x i K)
structure am (n:Nat) (x i:AV) (K:AV→Prop):Prop where
 mk::(out:dw n x i K)
structure cf (m n:Nat) (x i:AV) (K:AV→Prop):Prop where
 mk::(out:cU m n x i K)
structure bn (x:AV) (a b:Option AV) (K:AV→Prop):Prop where
 mk::(out:jq x a b K)
structure lA (n:Nat) (x:AV) (a b:Option AV) (K:AV→Prop):Prop where
 mk::(out:iK n x a b K)
structure Bt (x:AV) (K:AV→Prop):Prop where
 mk::(out:m5 x K)
structure bF (x:AV) (K:AV→Prop):Prop where
 mk::(out:zJ x K)
structure aV (x:AV) (K:AV→Prop):Prop where
 mk::(out:zN x K)
structure Co (x:AV) (h:ae) (K:AV→Prop):Prop where
 mk::(out:yn x h K)
structure an (i:Nat) (x:AV) (K:AV→Prop):Prop where
 mk::(out:iU i x K)
structure Du (x y:AV) (K:AV→Prop):Prop where
 mk::(out:FJ x y K)
structure Iv (x y:AV) (K:AV→Prop):Prop where
 mk::(out:FK x y K)
structure wU (t:TypeId) (x:AV) (K:AV→Prop):Prop where
 mk::(out:DB t x K)
structure ay (z:List AV) (ps:List (Nat×Nat×AV)) (K:AV→Prop):Prop where
 mk::(out:pm z ps K)
structure ao (n m:Nat) (vs:List AV) (K:AV→Prop):Prop where
 mk::(out:ii n m vs K)
structure cw (cs:List AV) (h:ae) (K:QT):Prop where
 mk::(out:Yz cs h K)
structure ft (v:AV) (h:ae) (K:QT):Prop where
 mk::(out:ac6 v h K)
structure ak (n:Nat) (x y:AV) (h:ae) (K:ae→Prop):Prop where
 mk::(out:vE n x y h K)
structure bh (n m:Nat) (x y:AV) (h:ae) (K:QT):Prop where
 mk::(out:ew n m x y h K)
end
section
variable [Tabs]
section
variable {P:Program}{G:Gh}{h:ae}{w:World}
def UpV (P:Program) (N:Value→World→Prop):Result Next→Prop
 | .ok (.value v) w'=>N v w'
 | .ok .skip w'=>N undef w'
 | .ok (.enter f args) w'=>Calls P f args w' fun e w''=>∃ v,e=.returned v∧N v w''
 | _=>False
theorem Ei {o:Oper}{a:Act}{next:Act→World→Prop}{Q:Exit→Act→World→Prop}{r:Result Next}(k:UpV P (fun v w'=>next (a.put o.dst v) w') r):o.upon P a next Q r:=by
 unfold UpV at k
 split at k
 ·exact k
 ·exact k
 ·refine Calls.mono k fun e w'' ⟨v,he,hn⟩=>?_
  subst he
  exact hn
 ·exact k.elim
def N0 (G:Gh) (h:ae) (w:World) (K:QT) (v:Value) (w':World):Prop:=∃ r h' G',Rep G' r v∧K r h'∧Sim G' h' w'∧Evo G h w G' h' w'
theorem be (s:Sim G h w) {m:Sem Value}{K:QT}(k:Yl P G w m fun r=>K r h):UpV P (N0 G h w K) ((do pure (.value (← m)):Sem Next).run P w):=by
 obtain⟨r,v,h1,h2,h3⟩:=k
 simp only[Sem.run_bind,h1,Result.andThen_ok,Sem.run_pure]
 exact⟨r,h,G,h2,h3,s,Evo.refl _ _ _⟩
theorem g6 {m:Sem Value}{K:QT}(k:Ye P G h w m K):UpV P (N0 G h w K) ((do pure (.value (← m)):Sem Next).run P w):=by
 obtain⟨r,v,h',G',w',h1,h2,h3,h4,h5⟩:=k
 simp only[Sem.run_bind,h1,Result.andThen_ok,Sem.run_pure]
 exact⟨r,h',G',h2,h3,h4,h5⟩
def F1 (P : Program) (f : FuncId) : Prop := ∃ fn, P.funcs[f]? = some fn ∧ (fn.name == "runtime.NumGoroutine") = false ∧ fn.body.isNone = false
structure ACall (P:Program) (f:FuncId) (args:List AV) (h:ae) (K:QT):Prop where
 body:F1 P f
 calls:ACalls P f args h K
def uP (P:Program) (v:AV) (args:List AV) (h:ae) (K:QT):Prop:=
 match v with
 | .fn (.func f) fi ca=>ACall P f (fi++args++ca) h K
 | _=>False
theorem ACall.mono {f:FuncId}{args:List AV}{K K':QT}(c:ACall P f args h K) (hk:∀ r h',K r h'→K' r h'):ACall P f args h K':=⟨c.1,c.2.mono hk⟩
theorem aaW (s:Sim G h w) {v:AV}{args:List AV}{x:Value}{ys:Array Value}{K:QT}(hx:Rep G v x) (hy:RepL G args ys.toList) (k:uP P v args h K):
  UpV P (N0 G h w K) ((do let d ← Deferred.ofValue x ys;invoke d.target d.args:Sem Next).run P w):=by
 unfold uP at k
 split at k
 ·rename_i f fi ca
  obtain⟨⟨fn,h1,h2,h3⟩,k⟩:=k
  simp only[Rep]at hx
  obtain⟨vs,ws,rfl,hv,hw⟩:=hx
  simp only[Deferred.ofValue,Sem.run_bind,Sem.run_pure,Result.andThen_ok,invoke,callFunc,run_program,h1,h2,h3,Bool.false_eq_true,if_false]
  have:=k G w _ s ((hv.append hy).append hw)
  have e:(vs++ys.toList++ws).toArray=vs.toArray++ys++ws.toArray:=by
   apply Array.toList_inj.1;simp
  rw[e]at this
  exact this.mono fun e w'' ⟨r,v,h',G',a,b,c,d,ev⟩=>⟨v,a,r,h',G',b,c,d,ev⟩
 ·exact k.elim
def eG (a b:Option AV) (K:AV→AV→Prop):Prop:=bV a fun x=>bV b fun y=>K x y
def d7 (a:Option (List AV)) (K:List AV→Prop):Prop:=match a with|some l=>K l|none=>False
def FI (env:Env):Option Operand→Option (Option AV)
 | none=>some none
 | some x=>match opv env x with|some v=>some (some v)|none=>none
def CB (a:Option (Option AV)) (K:Option AV→Prop):Prop:=match a with|some l=>K l|none=>False
def xC (P:Program) (t:TypeId) (is:List Nat) (vs:List AV) (K:AV→Prop):Prop:=
 match P.underlying t,P.info? t with
 | some (.struct fs),some i=>(match i.zero,jA P fs.toList with
   | some z,some l=>if okV z then (match AX (fun j=>l[j]?) (is.zip vs) with|some qs=>ay (ofV z).cells qs K|none=>False) else False
   | _,_=>False)
 | _,_=>False
def ij (P:Program) (t:TypeId) (n:Nat) (is:List Nat) (vs:List AV) (K:AV→Prop):Prop:=
 match P.underlying t with
 | some (.slice e)=>(match P.info? e with
   | some i=>(match i.zero with
     | some _=>if (is==List.range n&&decide (n*i.size≤16777216))=true then ao n i.size vs K else False
     | none=>False)
   | none=>False)
 | _=>False
def lu (P:Program) (t:TypeId) (v:AV) (h:ae) (K:AV→Prop):Prop:=
 match P.underlying t,P.info? t with
 | some d,some i=>if mn d=true then ap i.size v h K else af v h K
 | _,_=>False
def Qh (P:Program) (op:BinOp) (t:TypeId) (x y:AV) (K:AV→Prop):Prop:=
 match P.underlying t with
 | some .bool=>Kd op x y K
 | some (.pointer _)=>Eo op x y K
 | some (.int _)=>ai op x y K
 | some .string=>ai op x y K
 | some (.float _)=>ai op x y K
 | _=>False
def EO (P:Program) (s d:TypeId) (x:AV) (K:AV→Prop):Prop:=
 match P.underlying s,P.underlying d with
 | some (.int _),some (.int k)=>cj k x K
 | some (.int _),some (.float k)=>sb k x K
 | some .string,some .string=>yK x K
 | _,_=>False
def nS (P:Program) (t:TypeId) (x:AV) (lo hi mx:Option AV) (K:AV→Prop):Prop:=
 match P.underlying t,mx with
 | some .string,none=>bn x lo hi K
 | some (.slice e),none=>(match P.info? e with|some i=>lA i.size x lo hi K|none=>False)
 | some (.slice e),some (.lit (.int _ 0))=>(match P.info? e,lo,hi with|some _,none,some (.lit (.int _ 0))=>Bt x K|_,_,_=>False)
 | _,_=>False
def nH (P:Program) (t:TypeId) (x:AV) (f:Nat) (K:AV→Prop):Prop:=
 match P.underlying t with
 | some (.struct fs)=>(match fs[f]? with
   | some fd=>(match P.info? fd.type with|some i=>if i.size=0 then False else ab fd.offset x K|none=>False)
   | none=>False)
 | _=>False
def Es (P:Program) (t:TypeId) (off:Nat) (x:AV) (K:AV→Prop):Prop:=
 match P.underlying t,P.info? t with
 | some d,some i=>if mn d=true then Dp off i.size x K else CU off x K
 | _,_=>False
def yi (P:Program) (t:TypeId) (x:AV) (f:Nat) (K:AV→Prop):Prop:=
 match P.underlying t with
 | some (.struct fs)=>(match fs[f]? with|some fd=>Es P fd.type fd.offset x K|none=>False)
 | _=>False
def eI (P:Program) (t:TypeId) (x i:AV) (K:AV→Prop):Prop:=
 match P.underlying t with
 | some (.slice e)=>(match P.info? e with|some ei=>am ei.size x i K|none=>False)
 | some (.array n e)=>(match P.info? e with|some ei=>cf n ei.size x i K|none=>False)
 | _=>False
def C0 (P:Program) (t:TypeId) (x i:AV) (K:AV→Prop):Prop:=
 match P.underlying t with
 | some .string=>bl x i K
 | _=>False
def C3 (P:Program) (t:TypeId) (v:AV) (h:ae) (K:AV→Prop):Prop:=
 match P.underlying t with
 | some .string=>bF v K
 | some (.slice _)=>aV v K
 | some (.map _ _)=>Co v h K
 | _=>False
theorem aa4 {t:TypeId}{v:AV}{K:AV→Prop}(k:C3 P t v h K):∃ d,P.underlying t=some d∧Hw d v=true∧abZ v h K:=by
 unfold C3 at k
 split at k
 ·refine⟨_,‹_›,?_⟩
  replace k:=k.out;unfold zJ at k;split at k
  ·exact⟨rfl,k⟩
  ·exact k.elim
 ·refine⟨_,‹_›,?_⟩
  replace k:=k.out;unfold zN at k;split at k
  ·exact⟨rfl,k⟩
  ·exact⟨rfl,k⟩
  ·exact⟨rfl,k⟩
  ·exact k.elim
 ·refine⟨_,‹_›,?_⟩
  replace k:=k.out;unfold yn at k;split at k
  ·exact⟨rfl,k⟩
  ·exact k.elim
 ·exact k.elim
def XK (i:TypeInfo) (d2:TypeDesc):Bool:=
 (match i.zero with|some z=>z.cells.size==i.size|none=>false)&&decide (0<i.bytes)&&(match d2 with|.int _=>false|_=>true)
def Ce (P:Program) (t t2:TypeId) (x y:AV) (h:ae) (K:QT):Prop:=
 match P.underlying t,P.underlying t2 with
 | some (.slice e),some d2=>(match P.info? e with
   | some i=>if XK i d2=true then bh i.size i.bytes x y h K else False
   | none=>False)
 | _,_=>False
def aap (P:Program) (t:TypeId) (h:ae) (K:QT):Prop:=
 match P.info? t with
 | some i=>(match i.zero with|some z=>if okV z=true then cw (ofV z).cells h K else False|none=>False)
 | none=>False
def LH (P:Program) (t:TypeId) (x u:AV) (h:ae) (K:ae→Prop):Prop:=
 match P.info? t with
 | some i=>ak i.size x u h K
 | none=>False
def D7 (P:Program) (t:TypeId) (x:AV) (K:AV→Prop):Prop:=
 match P.underlying t with
 | some (.interface _)=>False
 | some _=>wU t x K
 | none=>False
def wR (P:Program) (env:Env) (h:ae) (o:Oper) (K:QT):Prop:=
 match o.op with
 | .move x=>bV (opv env x) fun v=>K v h
 | .assign x=>bV (opv env x) fun v=>K v h
 | .pick c a b=>bV (opv env c) fun cv=>eG (opv env a) (opv env b) fun av bv=>ifB cv (K av h) (K bv h)
 | .alloc e=>aap P e h K
 | .box _ x=>bV (opv env x) fun v=>ft v h K
 | .build t ps=>d7 (kZ env (ps.toList.map (·.2))) fun vs=>xC P t (ps.toList.map (·.1)) vs fun r=>K r h
 | .buildSlice t n ps=>d7 (kZ env (ps.toList.map (·.2))) fun vs=>ij P t n (ps.toList.map (·.1)) vs fun r=>K r h
 | .load t x=>bV (opv env x) fun v=>lu P t v h fun r=>K r h
 | .store t x u=>eG (opv env x) (opv env u) fun v y=>LH P t v y h fun h'=>K (.tup []) h'
 | .nilCheck x=>bV (opv env x) fun v=>aE v fun r=>K r h
 | .binOp op t x y _=>eG (opv env x) (opv env y) fun a b=>Qh P op t a b fun r=>K r h
 | .unOp op _ x=>bV (opv env x) fun a=>qUn op a fun r=>K r h
 | .convert s d x=>bV (opv env x) fun a=>EO P s d a fun r=>K r h
 | .makeInterface t x=>bV (opv env x) fun a=>D7 P t a fun r=>K r h
 | .makeFunc f fi ca=>d7 (kZ env fi.toList) fun vs=>d7 (kZ env ca.toList) fun ws=>K (.fn f vs ws) h
 | .slice t x lo hi mx=>bV (opv env x) fun a=>CB (FI env lo) fun l=>CB (FI env hi) fun u=>CB (FI env mx) fun m=>nS P t a l u m fun r=>K r h
 | .fieldAddr t x f=>bV (opv env x) fun a=>nH P t a f fun r=>K r h
 | .field t x f=>bV (opv env x) fun a=>yi P t a f fun r=>K r h
 | .indexAddr t x i=>eG (opv env x) (opv env i) fun a b=>eI P t a b fun r=>K r h
 | .index t x i=>eG (opv env x) (opv env i) fun a b=>C0 P t a b fun r=>K r h
 | .extract x i=>bV (opv env x) fun a=>an i a fun r=>K r h
 | .call c=>d7 (kZ env c.args.toList) fun vs=>(match c.callee with
   | .value f=>bV (opv env f) fun v=>uP P v vs h K
   | .builtin .len=>(match vs,c.argTypes.toList with|[v],[t]=>C3 P t v h fun r=>K r h|_,_=>False)
   | .builtin .append=>(match vs,c.argTypes.toList with|[v,u],[t,t2]=>Ce P t t2 v u h K|_,_=>False)
   | .builtin .max=>(match vs with|[v,u]=>Du v u fun r=>K r h|_=>False)
   | .builtin .min=>(match vs with|[v,u]=>Iv v u fun r=>K r h|_=>False)
   | _=>False)
 | _=>False
theorem aH {o:Option AV}{K:AV→Prop}(k:bV o K):∃ v,o=some v∧K v:=by
 unfold bV at k;split at k
 ·exact⟨_,rfl,k⟩
 ·exact k.elim
theorem dB {o:Option (List AV)}{K:List AV→Prop}(k:d7 o K):∃ v,o=some v∧K v:=by
 unfold d7 at k;split at k
 ·exact⟨_,rfl,k⟩
 ·exact k.elim
theorem tO {o:Option (Option AV)}{K:Option AV→Prop}(k:CB o K):∃ v,o=some v∧K v:=by
 unfold CB at k;split at k
 ·exact⟨_,rfl,k⟩
 ·exact k.elim
theorem IY {env:Env}{a:Act}(r:EnvRep G env a.tmps) {x:Option Operand}{v:Option AV}(h:FI env x=some v):nV G v (x.map a.eval):=by
 cases x with
 | none=>simp only[FI,Option.some.injEq]at h;subst h;trivial
 | some x=>
   simp only[FI]at h
   split at h
   ·rename_i u hu
    cases h
    exact aQ r hu
   ·cases h
theorem RepL.two {x y:AV}{l:List Value}(r:RepL G [x,y] l):∃ a b,l=[a,b]∧Rep G x a∧Rep G y b:=by
 simp only[RepL]at r
 obtain⟨a,_,rfl,h1,b,_,rfl,h2,rfl⟩:=r
 exact⟨a,b,rfl,h1,h2⟩
theorem RepL.single {x:AV}{l:List Value}(r:RepL G [x] l):∃ a,l=[a]∧Rep G x a:=by
 simp only[RepL]at r
 obtain⟨a,_,rfl,h1,rfl⟩:=r
 exact⟨a,rfl,h1⟩
theorem aaI (s:Sim G h w) {env:Env}{a:Act}(r:EnvRep G env a.tmps) {o:Oper}{K:QT}(k:wR P env h o K):UpV P (N0 G h w K) ((execOp a.eval o).run P w):=by
 obtain⟨dst,op,ty,pos,after,guard⟩:=o
 cases op<;>simp only[wR]at k
 case move x=>
  obtain⟨v,h1,k⟩:=aH k
  simp only[execOp,Sem.run_pure]
  exact⟨v,h,G,aQ r h1,k,s,Evo.refl _ _ _⟩
 case assign x=>
  obtain⟨v,h1,k⟩:=aH k
  simp only[execOp,Sem.run_pure]
  exact⟨v,h,G,aQ r h1,k,s,Evo.refl _ _ _⟩
 case pick c x y=>
  obtain⟨cv,h1,k⟩:=aH k
  obtain⟨xv,h2,k⟩:=aH k
  obtain⟨yv,h3,k⟩:=aH k
  have hc:=aQ r h1
  unfold ifB at k
  split at k
  ·simp only[Rep]at hc
   simp only[execOp,hc.1,asBool,Sem.run_bind,Sem.run_pure,Result.andThen_ok,if_true]
   exact⟨xv,h,G,aQ r h2,k,s,Evo.refl _ _ _⟩
  ·simp only[Rep]at hc
   simp only[execOp,hc.1,asBool,Sem.run_bind,Sem.run_pure,Result.andThen_ok,Bool.false_eq_true,if_false]
   exact⟨yv,h,G,aQ r h3,k,s,Evo.refl _ _ _⟩
  ·exact k.elim
 case alloc e=>
  unfold aap at k
  split at k
  ·rename_i i hi
   split at k
   ·rename_i z hz
    split at k
    ·rename_i hzo
     have hzc:RepL G (ofV z).cells z.cells.toList:=(rv G z hzo).cells (by
      unfold ofV IQ;split<;>(try split)<;>rfl)
     obtain⟨r',h',G',q1,q2,q3,q4⟩:=Um (t:=e) s hzc k.out
     refine g6 ⟨r',_,h',G',_,?_,q1,q2,q3,q4⟩
     simp only[Instr.alloc,Sem.run_bind,zeroValue,typeInfo,run_program,Result.andThen_ok,hi,hz,Sem.run_pure,newVar,newRow,run_newObj]
     rfl
    ·exact k.elim
   ·exact k.elim
  ·exact k.elim
 case box e x=>
  obtain⟨v,h1,k⟩:=aH k
  obtain⟨⟨ht,k⟩⟩:=k
  have hv:=(aQ r h1).cells ht
  obtain⟨r',h',G',q1,q2,q3,q4⟩:=Um (t:=e) s hv k
  refine g6 ⟨r',_,h',G',_,?_,q1,q2,q3,q4⟩
  simp only[Instr.box,newVar,newRow,Sem.run_bind,run_newObj,Result.andThen_ok,Sem.run_pure]
  rfl
 case build t ps=>
  obtain⟨vs,h1,k⟩:=dB k
  unfold xC at k
  split at k
  ·rename_i fs i ht hi
   split at k
   ·rename_i z l hz hl
    split at k
    ·rename_i hzo
     split at k
     ·rename_i qs hq
      have hr:=jC r h1
      have hlen:vs.length=ps.size:=by have:=hr.length;simpa using this.symm
      refine be s (WS (ps:=(ps.toList.map (·.1)).zip vs) ht hi hz hzo hl hq ?_ ?_ k.out)
      ·rw[List.map_fst_zip (by simp;omega)]
       simp
      ·rw[List.map_snd_zip (by simp;omega)]
       have e2:(ps.map fun p=>(p.1,a.eval p.2)).toList.map (·.2)=(ps.toList.map (·.2)).map a.eval:=by simp[List.map_map,Function.comp_def]
       rw[e2];exact hr
     ·exact k.elim
    ·exact k.elim
   ·exact k.elim
  ·exact k.elim
 case buildSlice t n ps=>
  obtain⟨vs,h1,k⟩:=dB k
  unfold ij at k
  split at k
  ·rename_i e ht
   split at k
   ·rename_i i hi
    split at k
    ·rename_i z hz
     split at k
     ·rename_i hc
      simp only[Bool.and_eq_true,beq_iff_eq,decide_eq_true_eq]at hc
      have hr:=jC r h1
      have hn:ps.toList.length=n:=by have:=congrArg List.length hc.1;simpa using this
      have e2:(ps.toList.map fun p=>a.eval p.2)=(ps.toList.map (·.2)).map a.eval:=by simp[List.map_map,Function.comp_def]
      obtain⟨r',v,h',G',w',q1,q2,⟨q3,q5⟩,q4⟩:=Hy s (xs:=ps.toList.map fun p=>a.eval p.2) (ps:=ps.map fun p=>(p.1,a.eval p.2)) ht hi hz (by
       apply List.ext_getElem?
       intro j
       simp only[Array.toList_map,List.getElem?_map,List.getElem?_zipIdx]
       rcases Nat.lt_or_ge j ps.toList.length with hj|hj
       ·have e1:=congrArg (·[j]?) hc.1
        simp only[List.getElem?_map,List.getElem?_range (show j<n by omega)]at e1
        rw[List.getElem?_eq_getElem hj]at e1 ⊢
        simp at e1
        simp[e1]
       ·rw[List.getElem?_eq_none hj];rfl) (by rw[e2];exact hr) hc.2 k.out
      subst q5
      exact g6 ⟨r',v,_,G',w',q1,q2,q3,q4⟩
     ·exact k.elim
    ·exact k.elim
   ·exact k.elim
  ·exact k.elim
 case load t x=>
  obtain⟨v,h1,k⟩:=aH k
  unfold lu at k
  split at k
  ·rename_i d i ht hi
   split at k
   ·rename_i hd;exact be s (Dn s ht hd hi (aQ r h1) k.out)
   ·rename_i hd;exact be s (C2 s ht (by simpa using hd) (aQ r h1) k.out)
  ·exact k.elim
 case store t x u=>
  obtain⟨v,h1,k⟩:=aH k
  obtain⟨y,h2,k⟩:=aH k
  unfold LH at k
  split at k
  ·rename_i i hi
   obtain⟨h',G',w',q1,q2,q3,q4⟩:=V6 s hi (aQ r h1) (aQ r h2) k.out
   simp only[execOp,Sem.run_bind,q1,Result.andThen_ok,Sem.run_pure]
   exact⟨.tup [],h',G',by simp[Rep,RepL,undef],q2,q3,q4⟩
  ·exact k.elim
 case nilCheck x=>
  obtain⟨v,h1,k⟩:=aH k
  have hv:=aQ r h1
  replace k:=k.out
  unfold Jn at k
  split at k
  ·have hv':=hv
   simp only[Rep]at hv
   obtain⟨b,o,_,e⟩:=hv
   simp only[execOp,e,Sem.run_pure]
   exact⟨_,h,G,by rw[← e];exact hv',k,s,Evo.refl _ _ _⟩
  ·have hv':=hv
   simp only[Rep]at hv
   obtain⟨b,o,e,_⟩:=hv
   simp only[execOp,e,Sem.run_pure]
   exact⟨_,h,G,by rw[← e];exact hv',k,s,Evo.refl _ _ _⟩
  ·have hv':=hv
   simp only[Rep]at hv
   obtain⟨vs,ws,e,_,_⟩:=hv
   simp only[execOp,e,Sem.run_pure]
   exact⟨_,h,G,by rw[← e];exact hv',k,s,Evo.refl _ _ _⟩
  ·exact k.elim
 case binOp op t x y yt=>
  obtain⟨v,h1,k⟩:=aH k
  obtain⟨u,h2,k⟩:=aH k
  unfold Qh at k
  split at k
  ·exact be s (XA ‹_› (aQ r h1) (aQ r h2) k.out)
  ·exact be s (XP ‹_› (aQ r h1) (aQ r h2) k.out)
  ·exact be s (Nv (aQ r h1) (aQ r h2) k.out)
  ·exact be s (Nv (aQ r h1) (aQ r h2) k.out)
  ·exact be s (Nv (aQ r h1) (aQ r h2) k.out)
  ·exact k.elim
 case unOp op t x=>
  obtain⟨v,h1,k⟩:=aH k
  exact be s (ab1 (aQ r h1) k.out)
 case convert sr d x=>
  obtain⟨v,h1,k⟩:=aH k
  unfold EO at k
  split at k
  ·exact be s (Tc ‹_› ‹_› (aQ r h1) k.out)
  ·exact be s (Rf ‹_› ‹_› (aQ r h1) k.out)
  ·exact be s (SR ‹_› ‹_› (aQ r h1) k.out)
  ·exact k.elim
 case makeInterface t x=>
  obtain⟨v,h1,k⟩:=aH k
  unfold D7 at k
  split at k
  ·exact k.elim
  ·rename_i d hd ht
   exact be s (Vh ht (fun m e=>hd m e) (aQ r h1) k.out)
  ·exact k.elim
 case makeFunc f fi ca=>
  obtain⟨vs,h1,k⟩:=dB k
  obtain⟨ws,h2,k⟩:=dB k
  refine be s ⟨_,_,by simp only[Instr.makeFunc,Sem.run_pure];rfl,?_,k⟩
  simp only[Rep]
  exact⟨fi.toList.map a.eval,ca.toList.map a.eval,by congr 1<;>(apply Array.toList_inj.1;simp),jC r h1,jC r h2⟩
 case slice t x lo hio mx=>
  obtain⟨v,h1,k1⟩:=aH k
  obtain⟨l,h2,k2⟩:=tO k1
  obtain⟨u,h3,k3⟩:=tO k2
  obtain⟨m,h4,k4⟩:=tO k3
  clear k k1 k2 k3
  have hm:=IY r h4
  have hl:=IY r h2
  have hu:=IY r h3
  clear h2 h3 h4
  unfold nS at k4
  split at k4
  ·rename_i ht
   cases mx with
   | some _=>simp[nV]at hm
   | none=>exact be s (Ro ht (aQ r h1) hl hu k4.out)
  ·rename_i e ht
   cases mx with
   | some _=>simp[nV]at hm
   | none=>
     split at k4
     ·exact be s (R5 ht ‹_› (aQ r h1) hl hu k4.out)
     ·exact k4.elim
  ·rename_i e k2 ht
   split at k4
   ·rename_i i k1 hinf
    cases mx with
    | none=>simp[nV]at hm
    | some mx=>
      cases lo with
      | some _=>simp[nV]at hl
      | none=>
        cases hio with
        | none=>simp[nV]at hu
        | some hi'=>
          simp only[nV,Option.map_some,Rep]at hu hm
          have:=be s (To (P:=P) ht hinf (aQ r h1) k1 k2 k4.out)
          simp only[execOp,Option.map_some,Option.map_none,hu.1,hm.1]
          exact this
   ·exact k4.elim
  ·exact k4.elim
 case fieldAddr t x f=>
  obtain⟨v,h1,k⟩:=aH k
  unfold nH at k
  split at k
  ·rename_i fs ht
   split at k
   ·rename_i fd hfd
    split at k
    ·rename_i i hi
     split at k
     ·exact k.elim
     ·rename_i hz
      exact be s (Jp ht hfd hi hz (aQ r h1) k.out)
    ·exact k.elim
   ·exact k.elim
  ·exact k.elim
 case field t x f=>
  obtain⟨v,h1,k⟩:=aH k
  unfold yi at k
  split at k
  ·rename_i fs ht
   split at k
   ·rename_i fd hfd
    unfold Es at k
    have hrun:∀ x:Value,(Instr.field t x f).run P w=(do part fd.type (← asAgg x) fd.offset:Sem Value).run P w:=fun x=>by
     simp only[Instr.field,Sem.run_bind,run_underlying ht,Result.andThen_ok,hfd]
    split at k
    ·rename_i d i hd hi
     split at k
     ·rename_i ha
      obtain⟨r',v',q1,q2,q3⟩:=Vq (P:=P) (w:=w) hd ha hi (aQ r h1) k.out
      exact be s ⟨r',v',by rw[hrun];exact q1,q2,q3⟩
     ·rename_i ha
      obtain⟨r',v',q1,q2,q3⟩:=VR (P:=P) (w:=w) hd (by simpa using ha) (aQ r h1) k.out
      exact be s ⟨r',v',by rw[hrun];exact q1,q2,q3⟩
    ·exact k.elim
   ·exact k.elim
  ·exact k.elim
 case indexAddr t x i=>
  obtain⟨v,h1,k⟩:=aH k
  obtain⟨u,h2,k⟩:=aH k
  unfold eI at k
  split at k
  ·split at k
   ·exact be s (zR ‹_› ‹_› (aQ r h1) (aQ r h2) k.out)
   ·exact k.elim
  ·split at k
   ·exact be s (x6 ‹_› ‹_› (aQ r h1) (aQ r h2) k.out)
   ·exact k.elim
  ·exact k.elim
 case index t x i=>
  obtain⟨v,h1,k⟩:=aH k
  obtain⟨u,h2,k⟩:=aH k
  unfold C0 at k
  split at k
  ·exact be s (R4 ‹_› (aQ r h1) (aQ r h2) k.out)
  ·exact k.elim
 case extract x i=>
  obtain⟨v,h1,k⟩:=aH k
  exact be s (PV (aQ r h1) k.out)
 case call c=>
  obtain⟨vs,h1,kk⟩:=dB k
  clear k
  have hr:=jC r h1
  obtain⟨callee,args,argTypes⟩:=c
  cases callee with
  | value f=>
    simp only at kk
    obtain⟨v,h2,k3⟩:=aH kk
    have:=aaW (P:=P) (ys:=args.map a.eval) s (aQ r h2) (by simpa using hr) k3
    simpa [execOp,resolve] using this
  | invoke _ _=>exact kk.elim
  | builtin b=>
    cases b<;>simp only at kk<;>try exact kk.elim
    case len=>
     split at kk
     ·rename_i v t hT
      obtain⟨d,hd,hf,kk⟩:=aa4 kk
      obtain⟨x,hx,hx2⟩:=hr.single
      have ha:argTypes=#[t]:=by apply Array.toList_inj.1;simpa using hT
      have hargs:args.map a.eval=#[x]:=by apply Array.toList_inj.1;simpa using hx
      subst ha
      obtain⟨r',v',q1,q2,q3⟩:=aad (ty:=ty) s hd hx2 hf kk
      simp only[execOp,resolve,Sem.run_bind,Sem.run_pure,Result.andThen_ok,invoke,builtin,hargs,q1]
      exact⟨r',h,G,q2,q3,s,Evo.refl _ _ _⟩
     ·exact kk.elim
    case append=>
     split at kk
     ·rename_i v u t t2 hT
      unfold Ce at kk
      split at kk
      ·rename_i e d2 ht ht2
       split at kk
       ·rename_i i hi
        split at kk
        ·rename_i hok
         obtain⟨x,y,hx,hx2,hx3⟩:=hr.two
         have ha:argTypes=#[t,t2]:=by apply Array.toList_inj.1;simpa using hT
         have hargs:args.map a.eval=#[x,y]:=by apply Array.toList_inj.1;simpa using hx
         subst ha
         simp only[XK,Bool.and_eq_true,decide_eq_true_eq]at hok
         obtain⟨⟨ho1,ho2⟩,ho3⟩:=hok
         split at ho1
         ·rename_i z hz
          have T:HK P t t2 e i z:=⟨ht,⟨d2,ht2,fun k e=>by subst e;simp at ho3⟩,hi,hz,by simpa using ho1,ho2⟩
          obtain⟨r',v',h',G',w',q1,q2,q3,q4,q5⟩:=Sw (ty:=ty) s T hx2 hx3 kk.out
          simp only[execOp,resolve,Sem.run_bind,Sem.run_pure,Result.andThen_ok,invoke,builtin,hargs,q1]
          exact⟨r',h',G',q2,q3,q4,q5⟩
         ·cases ho1
        ·exact kk.elim
       ·exact kk.elim
      ·exact kk.elim
     ·exact kk.elim
    case max=>
     split at kk
     ·rename_i v u
      obtain⟨x,y,hx,hx2,hx3⟩:=hr.two
      have hargs:args.map a.eval=#[x,y]:=by apply Array.toList_inj.1;simpa using hx
      obtain⟨r',v',q1,q2,q3⟩:=aaC (P:=P) (w:=w) (ts:=argTypes) (t:=ty) hx2 hx3 kk.out
      simp only[execOp,resolve,Sem.run_bind,Sem.run_pure,Result.andThen_ok,invoke,builtin,hargs,q1]
      exact⟨r',h,G,q2,q3,s,Evo.refl _ _ _⟩
     ·exact kk.elim
    case min=>
     split at kk
     ·rename_i v u
      obtain⟨x,y,hx,hx2,hx3⟩:=hr.two
      have hargs:args.map a.eval=#[x,y]:=by apply Array.toList_inj.1;simpa using hx
      obtain⟨r',v',q1,q2,q3⟩:=aao (P:=P) (w:=w) (ts:=argTypes) (t:=ty) hx2 hx3 kk.out
      simp only[execOp,resolve,Sem.run_bind,Sem.run_pure,Result.andThen_ok,invoke,builtin,hargs,q1]
      exact⟨r',h,G,q2,q3,s,Evo.refl _ _ _⟩
     ·exact kk.elim
end
end
section
variable [Tabs]
section
variable {P:Program}
theorem WV {K K':AV→Prop}(hk:∀ v,K v→K' v) (op:BinOp) (x y:AV) (k:FL op x y K):FL op x y K':=by
 unfold FL at *
 (repeat' split at k)<;>first|exact k.elim|simp_all
theorem Ta {K K':AV→Prop}(hk:∀ v,K v→K' v) (op:BinOp) (x y:AV) (k:xK op x y K):xK op x y K':=by
 unfold xK at *
 (repeat' split at k)<;>first|exact k.elim|simp_all
theorem Rc {K K':AV→Prop}(hk:∀ v,K v→K' v) (op:BinOp) (x y:AV) (k:xX op x y K):xX op x y K':=by
 unfold xX at *
 (repeat' split at k)<;>first|exact k.elim|simp_all
theorem Yf {K K':AV→Prop}(hk:∀ v,K v→K' v) (op:UnOp) (x:AV) (k:pUn op x K):pUn op x K':=by
 unfold pUn at *
 (repeat' split at k)<;>first|exact k.elim|simp_all
theorem NA {K K':AV→Prop}(hk:∀ v,K v→K' v) (d:IntKind) (x:AV) (k:m9 d x K):m9 d x K':=by
 unfold m9 at *
 (repeat' split at k)<;>first|exact k.elim|simp_all
theorem MC {K K':AV→Prop}(hk:∀ v,K v→K' v) (d:FloatKind) (x:AV) (k:mL d x K):mL d x K':=by
 unfold mL at *
 (repeat' split at k)<;>first|exact k.elim|simp_all
theorem NG {K K':AV→Prop}(hk:∀ v,K v→K' v) (x:AV) (k:mz x K):mz x K':=by
 unfold mz at *
 (repeat' split at k)<;>first|exact k.elim|simp_all
theorem We {K K':AV→Prop}(hk:∀ v,K v→K' v) (x:AV) (k:Jn x K):Jn x K':=by
 unfold Jn at *
 (repeat' split at k)<;>first|exact k.elim|simp_all
theorem Fp {K K':AV→Prop}(hk:∀ v,K v→K' v) (n:Nat) (x:AV) (k:fu n x K):fu n x K':=by
 unfold fu at *
 (repeat' split at k)<;>first|exact k.elim|simp_all
theorem OA {K K':AV→Prop}(hk:∀ v,K v→K' v) (n:Nat) (x:AV) (h:ae) (k:nK n x h K):nK n x h K':=by
 unfold nK at *
 (repeat' split at k)<;>first|exact k.elim|simp_all
theorem QL {K K':AV→Prop}(hk:∀ v,K v→K' v) (x:AV) (h:ae) (k:mU x h K):mU x h K':=by
 unfold mU at *
 (repeat' split at k)<;>first|exact k.elim|simp_all
theorem Pd {K K':AV→Prop}(hk:∀ v,K v→K' v) (o n:Nat) (x:AV) (k:qM o n x K):qM o n x K':=by
 unfold qM at *
 (repeat' split at k)<;>first|exact k.elim|simp_all
theorem NR {K K':AV→Prop}(hk:∀ v,K v→K' v) (o:Nat) (x:AV) (k:qE o x K):qE o x K':=by
 unfold qE at *
 (repeat' split at k)<;>first|exact k.elim|simp_all
theorem LJ {K K':AV→Prop}(hk:∀ v,K v→K' v) (x i:AV) (k:lC x i K):lC x i K':=by
 unfold lC at *
 (repeat' split at k)<;>first|exact k.elim|simp_all
theorem FD {K K':AV→Prop}(hk:∀ v,K v→K' v) (n:Nat) (x i:AV) (k:dw n x i K):dw n x i K':=by
 unfold dw at *
 (repeat' split at k)<;>first|exact k.elim|simp_all
theorem D8 {K K':AV→Prop}(hk:∀ v,K v→K' v) (m n:Nat) (x i:AV) (k:cU m n x i K):cU m n x i K':=by
 unfold cU at *
 (repeat' split at k)<;>first|exact k.elim|simp_all
theorem MK {K K':AV→Prop}(hk:∀ v,K v→K' v) (x:AV) (a b:Option AV) (k:jq x a b K):jq x a b K':=by
 unfold jq at *
 (repeat' split at k)<;>first|exact k.elim|simp_all
theorem NJ {K K':AV→Prop}(hk:∀ v,K v→K' v) (n:Nat) (x:AV) (a b:Option AV) (k:iK n x a b K):iK n x a b K':=by
 unfold iK at *
 (repeat' split at k)<;>first|exact k.elim|simp_all
theorem LI {K K':AV→Prop}(hk:∀ v,K v→K' v) (x:AV) (k:m5 x K):m5 x K':=by
 unfold m5 at *
 (repeat' split at k)<;>first|exact k.elim|simp_all
theorem Sf {K K':AV→Prop}(hk:∀ v,K v→K' v) (x:AV) (k:zJ x K):zJ x K':=by
 unfold zJ at *
 (repeat' split at k)<;>first|exact k.elim|simp_all
theorem RD {K K':AV→Prop}(hk:∀ v,K v→K' v) (x:AV) (k:zN x K):zN x K':=by
 unfold zN at *
 (repeat' split at k)<;>first|exact k.elim|simp_all
theorem SH {K K':AV→Prop}(hk:∀ v,K v→K' v) (x:AV) (h:ae) (k:yn x h K):yn x h K':=by
 unfold yn at *
 (repeat' split at k)<;>first|exact k.elim|simp_all
theorem I4 {K K':AV→Prop}(hk:∀ v,K v→K' v) (i:Nat) (x:AV) (k:iU i x K):iU i x K':=by
 unfold iU at *
 (repeat' split at k)<;>first|exact k.elim|simp_all
theorem VQ {K K':AV→Prop}(hk:∀ v,K v→K' v) (x y:AV) (k:FJ x y K):FJ x y K':=by
 unfold FJ at *
 split at k
 ·exact hk _ k
 ·exact k.elim
theorem Wj {K K':AV→Prop}(hk:∀ v,K v→K' v) (x y:AV) (k:FK x y K):FK x y K':=by
 unfold FK at *
 split at k
 ·exact hk _ k
 ·exact k.elim
theorem PO {K K':AV→Prop}(hk:∀ v,K v→K' v) (z:List AV) (ps:List (Nat×Nat×AV)) (k:pm z ps K):pm z ps K':=by
 unfold pm at *
 (repeat' split at k)<;>first|exact k.elim|simp_all
theorem tN {K K':AV→Prop}(hk:∀ v,K v→K' v) (op:BinOp) (x y:AV) (k:ai op x y K):ai op x y K':=⟨WV hk op x y k.out⟩
theorem Bb {K K':AV→Prop}(hk:∀ v,K v→K' v) (op:BinOp) (x y:AV) (k:Kd op x y K):Kd op x y K':=⟨Ta hk op x y k.out⟩
theorem A8 {K K':AV→Prop}(hk:∀ v,K v→K' v) (op:BinOp) (x y:AV) (k:Eo op x y K):Eo op x y K':=⟨Rc hk op x y k.out⟩
theorem G5 {K K':AV→Prop}(hk:∀ v,K v→K' v) (op:UnOp) (x:AV) (k:qUn op x K):qUn op x K':=⟨Yf hk op x k.out⟩
theorem uL {K K':AV→Prop}(hk:∀ v,K v→K' v) (d:IntKind) (x:AV) (k:cj d x K):cj d x K':=⟨NA hk d x k.out⟩
theorem vK {K K':AV→Prop}(hk:∀ v,K v→K' v) (d:FloatKind) (x:AV) (k:sb d x K):sb d x K':=⟨MC hk d x k.out⟩
theorem vc {K K':AV→Prop}(hk:∀ v,K v→K' v) (x:AV) (k:yK x K):yK x K':=⟨NG hk x k.out⟩
theorem CT {K K':AV→Prop}(hk:∀ v,K v→K' v) (x:AV) (k:aE x K):aE x K':=⟨We hk x k.out⟩
theorem pj {K K':AV→Prop}(hk:∀ v,K v→K' v) (n:Nat) (x:AV) (k:ab n x K):ab n x K':=⟨Fp hk n x k.out⟩
theorem ik {K K':AV→Prop}(hk:∀ v,K v→K' v) (n:Nat) (x:AV) (h:ae) (k:ap n x h K):ap n x h K':=⟨OA hk n x h k.out⟩
theorem ig {K K':AV→Prop}(hk:∀ v,K v→K' v) (x:AV) (h:ae) (k:af x h K):af x h K':=⟨QL hk x h k.out⟩
theorem xq {K K':AV→Prop}(hk:∀ v,K v→K' v) (o n:Nat) (x:AV) (k:Dp o n x K):Dp o n x K':=⟨Pd hk o n x k.out⟩
theorem yE {K K':AV→Prop}(hk:∀ v,K v→K' v) (o:Nat) (x:AV) (k:CU o x K):CU o x K':=⟨NR hk o x k.out⟩
theorem vw {K K':AV→Prop}(hk:∀ v,K v→K' v) (x i:AV) (k:bl x i K):bl x i K':=⟨LJ hk x i k.out⟩
theorem iT {K K':AV→Prop}(hk:∀ v,K v→K' v) (n:Nat) (x i:AV) (k:am n x i K):am n x i K':=⟨FD hk n x i k.out⟩
theorem fg {K K':AV→Prop}(hk:∀ v,K v→K' v) (m n:Nat) (x i:AV) (k:cf m n x i K):cf m n x i K':=⟨D8 hk m n x i k.out⟩
theorem va {K K':AV→Prop}(hk:∀ v,K v→K' v) (x:AV) (a b:Option AV) (k:bn x a b K):bn x a b K':=⟨MK hk x a b k.out⟩
theorem uH {K K':AV→Prop}(hk:∀ v,K v→K' v) (n:Nat) (x:AV) (a b:Option AV) (k:lA n x a b K):lA n x a b K':=⟨NJ hk n x a b k.out⟩
theorem uS {K K':AV→Prop}(hk:∀ v,K v→K' v) (x:AV) (k:Bt x K):Bt x K':=⟨LI hk x k.out⟩
theorem AU {K K':AV→Prop}(hk:∀ v,K v→K' v) (x:AV) (k:bF x K):bF x K':=⟨Sf hk x k.out⟩
theorem AI {K K':AV→Prop}(hk:∀ v,K v→K' v) (x:AV) (k:aV x K):aV x K':=⟨RD hk x k.out⟩
theorem AR {K K':AV→Prop}(hk:∀ v,K v→K' v) (x:AV) (h:ae) (k:Co x h K):Co x h K':=⟨SH hk x h k.out⟩
theorem tz {K K':AV→Prop}(hk:∀ v,K v→K' v) (i:Nat) (x:AV) (k:an i x K):an i x K':=⟨I4 hk i x k.out⟩
theorem Dz {K K':AV→Prop}(hk:∀ v,K v→K' v) (x y:AV) (k:Du x y K):Du x y K':=⟨VQ hk x y k.out⟩
theorem CY {K K':AV→Prop}(hk:∀ v,K v→K' v) (x y:AV) (k:Iv x y K):Iv x y K':=⟨Wj hk x y k.out⟩
theorem wZ {K K':AV→Prop}(hk:∀ v,K v→K' v) (z:List AV) (ps:List (Nat×Nat×AV)) (k:ay z ps K):ay z ps K':=⟨PO hk z ps k.out⟩
theorem Ds {K K':AV→Prop}(hk:∀ v,K v→K' v) (n m:Nat) (vs:List AV) (k:ii n m vs K):ii n m vs K':=⟨k.1,hk _ k.2⟩
theorem N2 {K K':ae→Prop}(hk:∀ v,K v→K' v) (n:Nat) (x y:AV) (h:ae) (k:vE n x y h K):vE n x y h K':=by
 unfold vE at *
 (repeat' split at k)<;>first|exact k.elim|exact⟨k.1,hk _ k.2⟩
theorem LM {K K':QT}(hk:∀ v h,K v h→K' v h) (n m:Nat) (x y:AV) (h:ae) (k:ew n m x y h K):ew n m x y h K':=by
 unfold ew at *
 split at k
 ·exact k.elim
 ·split at k
  ·refine⟨k.1,?_⟩
   have k2:=k.2
   split at k2
   ·rename_i h0;rw[if_pos h0];exact hk _ _ k2
   ·rename_i h0;rw[if_neg h0];exact hk _ _ k2
  ·split at k
   ·exact⟨k.1,hk _ _ k.2⟩
   ·exact k.elim
  ·exact k.elim
theorem Ps {K K':QT}(hk:∀ v h,K v h→K' v h) (x:AV) (vs:List AV) (h:ae) (k:uP P x vs h K):uP P x vs h K':=by
 unfold uP at *
 split at k
 ·exact k.mono hk
 ·exact k.elim
theorem bm {K K':AV→Prop}(hk:∀ v,K v→K' v) (o:Option AV) (k:bV o K):bV o K':=by
 unfold bV at *;split at k
 ·exact hk _ k
 ·exact k.elim
theorem fm {K K':List AV→Prop}(hk:∀ v,K v→K' v) (o:Option (List AV)) (k:d7 o K):d7 o K':=by
 unfold d7 at *;split at k
 ·exact hk _ k
 ·exact k.elim
theorem Az {K K':Option AV→Prop}(hk:∀ v,K v→K' v) (o:Option (Option AV)) (k:CB o K):CB o K':=by
 unfold CB at *;split at k
 ·exact hk _ k
 ·exact k.elim
theorem dN {K K':AV→AV→Prop}(hk:∀ v u,K v u→K' v u) (a b:Option AV) (k:eG a b K):eG a b K':=bm (fun _ k=>bm (fun _ k=>hk _ _ k) _ k) _ k
theorem CI {v:AV}{X Y X' Y':Prop}(hx:X→X') (hy:Y→Y') (k:ifB v X Y):ifB v X' Y':=by
 unfold ifB at *;split at k
 ·exact hx k
 ·exact hy k
 ·exact k.elim
theorem xT {K K':AV→Prop}(hk:∀ v,K v→K' v) (t:TypeId) (x:AV) (k:wU t x K):wU t x K':=⟨hk _ k.out⟩
theorem nO {K K':AV→Prop}(hk:∀ v,K v→K' v) (n m:Nat) (vs:List AV) (k:ao n m vs K):ao n m vs K':=⟨Ds hk _ _ _ k.out⟩
theorem N4 {K K':ae→Prop}(hk:∀ v,K v→K' v) (n:Nat) (x y:AV) (h:ae) (k:ak n x y h K):ak n x y h K':=⟨N2 hk _ _ _ _ k.out⟩
theorem MI {K K':QT}(hk:∀ v h,K v h→K' v h) (n m:Nat) (x y:AV) (h:ae) (k:bh n m x y h K):bh n m x y h K':=⟨LM hk _ _ _ _ _ k.out⟩
theorem UX {env:Env}{h:ae}{o:Oper}{K K':QT}(hk:∀ v h,K v h→K' v h) (k:wR P env h o K):wR P env h o K':=by
 obtain⟨dst,op,ty,pos,after,guard⟩:=o
 have hk':∀ v,K v h→K' v h:=fun v=>hk v h
 cases op<;>simp only[wR]at k ⊢
 case move=>exact bm hk' _ k
 case assign=>exact bm hk' _ k
 case pick=>exact bm (fun _ k=>dN (fun _ _ k=>CI (hk' _) (hk' _) k) _ _ k) _ k
 case alloc=>unfold aap at *;(repeat' split at k)<;>first|exact k.elim|(rw[if_pos ‹_›];exact⟨hk _ _ k.out⟩)
 case box=>exact bm (fun _ k=>⟨⟨k.out.1,hk _ _ k.out.2⟩⟩) _ k
 case build=>refine fm (fun _ k=>?_) _ k;unfold xC at *;(repeat' split at k)<;>first|exact k.elim|(rw[if_pos ‹_›];exact wZ hk' _ _ k)
 case buildSlice=>refine fm (fun _ k=>?_) _ k;unfold ij at *;(repeat' split at k)<;>first|exact k.elim|(rw[if_pos ‹_›];exact nO hk' _ _ _ k)
 case load=>refine bm (fun _ k=>?_) _ k;unfold lu at *;(repeat' split at k)<;>first|exact k.elim|(rw[if_pos ‹_›];exact ik hk' _ _ _ k)|(rw[if_neg ‹_›];exact ig hk' _ _ k)
 case store=>refine dN (fun _ _ k=>?_) _ _ k;unfold LH at *;(repeat' split at k)<;>first|exact k.elim|exact N4 (fun _ k=>hk _ _ k) _ _ _ _ k
 case nilCheck=>exact bm (fun _ k=>CT hk' _ k) _ k
 case binOp=>refine dN (fun _ _ k=>?_) _ _ k;unfold Qh at *;(repeat' split at k)<;>first|exact k.elim|exact tN hk' _ _ _ k|exact Bb hk' _ _ _ k|exact A8 hk' _ _ _ k
 case unOp=>exact bm (fun _ k=>G5 hk' _ _ k) _ k
 case convert=>refine bm (fun _ k=>?_) _ k;unfold EO at *;(repeat' split at k)<;>first|exact k.elim|exact uL hk' _ _ k|exact vK hk' _ _ k|exact vc hk' _ k
 case makeInterface=>refine bm (fun _ k=>?_) _ k;unfold D7 at *;(repeat' split at k)<;>first|exact k.elim|exact xT hk' _ _ k
 case makeFunc=>exact fm (fun _ k=>fm (fun _ k=>hk _ _ k) _ k) _ k
 case slice=>refine bm (fun _ k=>Az (fun _ k=>Az (fun _ k=>Az (fun _ k=>?_) _ k) _ k) _ k) _ k;unfold nS at *;(repeat' split at k)<;>first|exact k.elim|exact va hk' _ _ _ k|exact uH hk' _ _ _ _ k|exact uS hk' _ k
 case fieldAddr=>refine bm (fun _ k=>?_) _ k;unfold nH at *;(repeat' split at k)<;>first|exact k.elim|(rw[if_neg ‹_›];exact pj hk' _ _ k)
 case field=>refine bm (fun _ k=>?_) _ k;unfold yi Es at *;(repeat' split at k)<;>first|exact k.elim|(rw[if_pos ‹_›];exact xq hk' _ _ _ k)|(rw[if_neg ‹_›];exact yE hk' _ _ k)
 case indexAddr=>refine dN (fun _ _ k=>?_) _ _ k;unfold eI at *;(repeat' split at k)<;>first|exact k.elim|exact iT hk' _ _ _ k|exact fg hk' _ _ _ _ k
 case index=>refine dN (fun _ _ k=>?_) _ _ k;unfold C0 at *;(repeat' split at k)<;>first|exact k.elim|exact vw hk' _ _ k
 case extract=>exact bm (fun _ k=>tz hk' _ _ k) _ k
 case call c=>
  refine fm (fun _ k=>?_) _ k
  split at k
  ·exact bm (fun _ k=>Ps hk _ _ _ k) _ k
  ·split at k
   ·unfold C3 at *
    (repeat' split at k)<;>first|exact k.elim|exact AU hk' _ k|exact AI hk' _ k|exact AR hk' _ _ k
   ·exact k.elim
  ·split at k
   ·unfold Ce at *
    (repeat' split at k)<;>first|exact k.elim|(rw[if_pos ‹_›];exact MI hk _ _ _ _ _ k)
   ·exact k.elim
  ·split at k
   ·exact Dz hk' _ _ k
   ·exact k.elim
  ·split at k
   ·exact CY hk' _ _ k
   ·exact k.elim
  ·exact k.elim
end
end
section
variable [Tabs]
structure c5 (d:TypeDesc) (ok:Bool) (z x key:AV) (h:ae) (K:AV→Prop):Prop where
 mk::(out:il d ok z x key h K)
structure qx (x:AV) (h:ae) (K:AV→Prop):Prop where
 mk::(out:g9 x h K)
structure FO (op:BinOp) (x:AV) (K:AV→Prop):Prop where
 mk::(out:mG op x K)
structure F7 (op:BinOp) (x:AV) (K:AV→Prop):Prop where
 mk::(out:mM op x K)
structure F3 (op:BinOp) (x:AV) (K:AV→Prop):Prop where
 mk::(out:m7 op x K)
structure jT (op:BinOp) (x:AV) (K:AV→Prop):Prop where
 mk::(out:oy op x K)
structure Ay (x:AV) (h:ae) (K:AV→Prop):Prop where
 mk::(out:ph x h K)
structure QU (op:BinOp) (ds:List TypeDesc) (x y:AV) (K:AV→Prop):Prop where
 mk::(out:Ft op ds x y K)
structure bT (d:TypeDesc) (x key v:AV) (h:ae) (K:ae→Prop):Prop where
 mk::(out:gA d x key v h K)
structure qz (d:TypeDesc) (z x key:AV) (h:ae) (K:QT):Prop where
 mk::(out:kw d z x key h K)
structure lU (x st v:AV) (h:ae) (K:ae→Prop):Prop where
 mk::(out:fV x st v h K)
structure qp (d:TypeDesc) (x key:AV) (h:ae) (K:ae→Prop):Prop where
 mk::(out:pW d x key h K)
structure mo (h:ae) (K:QT):Prop where
 mk::(out:ul h K)
structure vC (x:AV) (h:ae) (K:QT):Prop where
 mk::(out:rN x h K)
structure Ba (x:AV) (h:ae) (K:QT):Prop where
 mk::(out:vP x h K)
structure vG (x:AV) (h:ae) (K:QT):Prop where
 mk::(out:qb x h K)
structure AD (x:AV) (h:ae) (K:QT):Prop where
 mk::(out:uW x h K)
structure qC (x:AV) (h:ae) (K:QT):Prop where
 mk::(out:jZ x h K)
structure lK (b:Nat) (z l c:AV) (h:ae) (K:QT):Prop where
 mk::(out:ix b z l c h K)
theorem lW {K K':AV→Prop}(hk:∀ v,K v→K' v) (op:BinOp) (b:Bool) (k:po op b K):po op b K':=by
 unfold po at *
 split at k<;>first|exact k.elim|exact hk _ k
theorem MV {K K':AV→Prop}(hk:∀ v,K v→K' v) (d:TypeDesc) (ok:Bool) (z x key:AV) (h:ae) (k:il d ok z x key h K):il d ok z x key h K':=by
 unfold il at *
 (repeat' split at k)<;>first|exact k.elim|(simp_all;done)|(simp_all only [];exact hk _ k)
theorem vL {K K':AV→Prop}(hk:∀ v,K v→K' v) (d:TypeDesc) (ok:Bool) (z x key:AV) (h:ae) (k:c5 d ok z x key h K):c5 d ok z x key h K':=⟨MV hk d ok z x key h k.out⟩
theorem Ib {K K':AV→Prop}(hk:∀ v,K v→K' v) (x:AV) (h:ae) (k:g9 x h K):g9 x h K':=by
 unfold g9 at *
 (repeat' split at k)<;>first|exact k.elim|(simp_all;done)|(simp_all only [];exact hk _ k)
theorem qJ {K K':AV→Prop}(hk:∀ v,K v→K' v) (x:AV) (h:ae) (k:qx x h K):qx x h K':=⟨Ib hk x h k.out⟩
theorem Ng {K K':AV→Prop}(hk:∀ v,K v→K' v) (op:BinOp) (x:AV) (k:mG op x K):mG op x K':=by
 unfold mG at *
 (repeat' split at k)<;>first|exact k.elim|(simp_all;done)|(simp_all only [];exact hk _ k)
theorem vH {K K':AV→Prop}(hk:∀ v,K v→K' v) (op:BinOp) (x:AV) (k:FO op x K):FO op x K':=⟨Ng hk op x k.out⟩
theorem LP {K K':AV→Prop}(hk:∀ v,K v→K' v) (op:BinOp) (x:AV) (k:mM op x K):mM op x K':=by
 unfold mM at *
 (repeat' split at k)<;>first|exact k.elim|(simp_all;done)|(simp_all only [];exact hk _ k)
theorem uJ {K K':AV→Prop}(hk:∀ v,K v→K' v) (op:BinOp) (x:AV) (k:F7 op x K):F7 op x K':=⟨LP hk op x k.out⟩
theorem NM {K K':AV→Prop}(hk:∀ v,K v→K' v) (op:BinOp) (x:AV) (k:m7 op x K):m7 op x K':=by
 unfold m7 at *
 (repeat' split at k)<;>first|exact k.elim|(simp_all;done)|(simp_all only [];exact hk _ k)
theorem vJ {K K':AV→Prop}(hk:∀ v,K v→K' v) (op:BinOp) (x:AV) (k:F3 op x K):F3 op x K':=⟨NM hk op x k.out⟩
theorem NN {K K':AV→Prop}(hk:∀ v,K v→K' v) (op:BinOp) (x:AV) (k:oy op x K):oy op x K':=by
 unfold oy at *
 split at k
 ·exact lW hk _ _ k
 ·split at k
  ·rename_i h0;rw[if_pos h0];exact⟨lW hk _ _ k.1,lW hk _ _ k.2⟩
  ·rename_i h0;rw[if_neg h0];exact lW hk _ _ k
 ·split at k
  ·rename_i h0;rw[if_pos h0];exact⟨lW hk _ _ k.1,lW hk _ _ k.2⟩
  ·rename_i h0;rw[if_neg h0];exact lW hk _ _ k
 ·exact k.elim
theorem CN {K K':AV→Prop}(hk:∀ v,K v→K' v) (op:BinOp) (x:AV) (k:jT op x K):jT op x K':=⟨NN hk op x k.out⟩
theorem Ol {K K':AV→Prop}(hk:∀ v,K v→K' v) (x:AV) (h:ae) (k:ph x h K):ph x h K':=by
 unfold ph at *
 (repeat' split at k)<;>first|exact k.elim|(simp_all;done)|(simp_all only [];exact hk _ k)
theorem yr {K K':AV→Prop}(hk:∀ v,K v→K' v) (x:AV) (h:ae) (k:Ay x h K):Ay x h K':=⟨Ol hk x h k.out⟩
theorem UW {K K':AV→Prop}(hk:∀ v,K v→K' v) (op:BinOp) (ds:List TypeDesc) (x y:AV) (k:Ft op ds x y K):Ft op ds x y K':=by
 unfold Ft at *
 split at k
 ·split at k
  ·exact lW hk _ _ k
  ·exact k.elim
 ·exact k.elim
theorem DG {K K':AV→Prop}(hk:∀ v,K v→K' v) (op:BinOp) (ds:List TypeDesc) (x y:AV) (k:QU op ds x y K):QU op ds x y K':=⟨UW hk op ds x y k.out⟩
theorem FG {K K':ae→Prop}(hk:∀ v,K v→K' v) (d:TypeDesc) (x key v:AV) (h:ae) (k:gA d x key v h K):gA d x key v h K':=by
 unfold gA at *
 (repeat' split at k)<;>first|exact k.elim|exact hk _ k|(rw[if_pos ‹_›];exact hk _ k)|(rw[if_neg ‹_›];exact hk _ k)|(simp_all;done)|(simp only[*,if_true];done)|(simp only[*,if_true];exact hk _ k)
theorem wa {K K':ae→Prop}(hk:∀ v,K v→K' v) (d:TypeDesc) (x key v:AV) (h:ae) (k:bT d x key v h K):bT d x key v h K':=⟨FG hk d x key v h k.out⟩
theorem GN {K K':QT}(hk:∀ v h,K v h→K' v h) (d:TypeDesc) (z x key:AV) (h:ae) (k:kw d z x key h K):kw d z x key h K':=by
 unfold kw at *
 (repeat' split at k)<;>first|exact k.elim|exact hk _ _ k|(rw[if_pos ‹_›];exact hk _ _ k)|(rw[if_neg ‹_›];exact hk _ _ k)|(simp_all;done)|(simp only[*,if_true];done)|(simp only[*,if_true];exact hk _ _ k)
theorem GA {K K':QT}(hk:∀ v h,K v h→K' v h) (d:TypeDesc) (z x key:AV) (h:ae) (k:qz d z x key h K):qz d z x key h K':=⟨GN hk d z x key h k.out⟩
theorem Dr {K K':ae→Prop}(hk:∀ v,K v→K' v) (x st v:AV) (h:ae) (k:fV x st v h K):fV x st v h K':=by
 unfold fV at *
 (repeat' split at k)<;>first|exact k.elim|exact hk _ k|(rw[if_pos ‹_›];exact hk _ k)|(rw[if_neg ‹_›];exact hk _ k)|(simp_all;done)|(simp only[*,if_true];done)|(simp only[*,if_true];exact hk _ k)
theorem DS {K K':ae→Prop}(hk:∀ v,K v→K' v) (x st v:AV) (h:ae) (k:lU x st v h K):lU x st v h K':=⟨Dr hk x st v h k.out⟩
theorem MP {K K':ae→Prop}(hk:∀ v,K v→K' v) (d:TypeDesc) (x key:AV) (h:ae) (k:pW d x key h K):pW d x key h K':=by
 unfold pW at *
 (repeat' split at k)<;>first|exact k.elim|exact hk _ k|(rw[if_pos ‹_›];exact hk _ k)|(rw[if_neg ‹_›];exact hk _ k)|(simp_all;done)|(simp only[*,if_true];done)|(simp only[*,if_true];exact hk _ k)
theorem Nl {K K':ae→Prop}(hk:∀ v,K v→K' v) (d:TypeDesc) (x key:AV) (h:ae) (k:qp d x key h K):qp d x key h K':=⟨MP hk d x key h k.out⟩
theorem Ja {K K':QT}(hk:∀ v h,K v h→K' v h) (h:ae) (k:ul h K):ul h K':=by
 exact hk _ _ k
theorem JA {K K':QT}(hk:∀ v h,K v h→K' v h) (h:ae) (k:mo h K):mo h K':=⟨Ja hk h k.out⟩
theorem Ml {K K':QT}(hk:∀ v h,K v h→K' v h) (x:AV) (h:ae) (k:rN x h K):rN x h K':=by
 unfold rN at *
 (repeat' split at k)<;>first|exact k.elim|exact hk _ _ k|(rw[if_pos ‹_›];exact hk _ _ k)|(rw[if_neg ‹_›];exact hk _ _ k)|(simp_all;done)|(simp only[*,if_true];done)|(simp only[*,if_true];exact hk _ _ k)
theorem L7 {K K':QT}(hk:∀ v h,K v h→K' v h) (x:AV) (h:ae) (k:vC x h K):vC x h K':=⟨Ml hk x h k.out⟩
theorem QP {K K':QT}(hk:∀ v h,K v h→K' v h) (x:AV) (h:ae) (k:vP x h K):vP x h K':=by
 unfold vP at *
 (repeat' split at k)<;>first|exact k.elim|exact hk _ _ k|(rw[if_pos ‹_›];exact hk _ _ k)|(rw[if_neg ‹_›];exact hk _ _ k)|(simp_all;done)|(simp only[*,if_true];done)|(simp only[*,if_true];exact hk _ _ k)
theorem QO {K K':QT}(hk:∀ v h,K v h→K' v h) (x:AV) (h:ae) (k:Ba x h K):Ba x h K':=⟨QP hk x h k.out⟩
theorem Nf {K K':QT}(hk:∀ v h,K v h→K' v h) (x:AV) (h:ae) (k:qb x h K):qb x h K':=by
 unfold qb at *
 (repeat' split at k)<;>first|exact k.elim|exact hk _ _ k|(rw[if_pos ‹_›];exact hk _ _ k)|(rw[if_neg ‹_›];exact hk _ _ k)|(simp_all;done)|(simp only[*,if_true];done)|(simp only[*,if_true];exact hk _ _ k)
theorem M9 {K K':QT}(hk:∀ v h,K v h→K' v h) (x:AV) (h:ae) (k:vG x h K):vG x h K':=⟨Nf hk x h k.out⟩
theorem Oq {K K':QT}(hk:∀ v h,K v h→K' v h) (x:AV) (h:ae) (k:uW x h K):uW x h K':=by
 unfold uW at *
 split at k
 ·split at k
  ·exact hk _ _ k
  ·split at k
   ·exact⟨k.1,fun a=>hk _ _ (k.2.1 a),fun e he hs=>hk _ _ (k.2.2 e he hs)⟩
   ·exact k.elim
  ·exact k.elim
 ·exact k.elim
theorem P6 {K K':QT}(hk:∀ v h,K v h→K' v h) (x:AV) (h:ae) (k:AD x h K):AD x h K':=⟨Oq hk x h k.out⟩
theorem HO {K K':QT}(hk:∀ v h,K v h→K' v h) (x:AV) (h:ae) (k:jZ x h K):jZ x h K':=by
 unfold jZ at *
 (repeat' split at k)<;>first|exact k.elim|exact hk _ _ k|(rw[if_pos ‹_›];exact hk _ _ k)|(rw[if_neg ‹_›];exact hk _ _ k)|(simp_all;done)|(simp only[*,if_true];done)|(simp only[*,if_true];exact hk _ _ k)
theorem IR {K K':QT}(hk:∀ v h,K v h→K' v h) (x:AV) (h:ae) (k:qC x h K):qC x h K':=⟨HO hk x h k.out⟩
theorem Fw {K K':QT}(hk:∀ v h,K v h→K' v h) (b:Nat) (z l c:AV) (h:ae) (k:ix b z l c h K):ix b z l c h K':=by
 unfold ix at *
 split at k
 ·exact⟨k.1,hk _ _ k.2⟩
 ·exact k.elim
theorem FC {K K':QT}(hk:∀ v h,K v h→K' v h) (b:Nat) (z l c:AV) (h:ae) (k:lK b z l c h K):lK b z l c h K':=⟨Fw hk b z l c h k.out⟩
end
section
variable [Tabs]
section
variable {P:Program}{G:Gh}{h:ae}{w:World}
def EZ (P:Program):Op→Bool
 | .makeMap _ none=>true
 | .lookup ..=>true
 | .mapUpdate ..=>true
 | .insert ..=>true
 | .mapEntry ..=>true
 | .entryStore ..=>true
 | .range ..=>true
 | .next ..=>true
 | .entry _=>true
 | .makeSlice ..=>true
 | .convert s d _=>match P.underlying s,P.underlying d with
   | some (.slice _),some .string=>true
   | some .string,some (.slice _)=>true
   | _,_=>false
 | .binOp _ t _ _ _=>match P.underlying t with
   | some (.slice _)=>true
   | some (.map _ _)=>true
   | some (.interface _)=>true
   | some (.func _ _ _)=>true
   | some (.struct _)=>true
   | _=>false
 | .call c=>match c.callee with
   | .builtin .delete=>true
   | _=>false
 | _=>false
def DT (P:Program) (t:TypeId) (K:TypeDesc→Value→Prop):Prop:=
 match P.underlying t with
 | some (.map kt et)=>(match P.underlying kt,P.info? et with
   | some d,some i=>(match i.zero with|some z=>if okV z=true then K d z else False|none=>False)
   | _,_=>False)
 | _=>False
def Bw (P:Program) (t:TypeId) (K:TypeDesc→Prop):Prop:=
 match P.underlying t with
 | some (.map kt _)=>(match P.underlying kt with|some d=>K d|none=>False)
 | _=>False
def yS (P:Program) (e:TypeId):Bool:=match P.underlying e with|some (.int .u8)=>true|_=>false
def yT (P:Program) (op:BinOp) (t:TypeId) (a:AV) (y:Operand) (K:AV→Prop):Prop:=
 match P.underlying t,y with
 | some (.slice _),.const (.slice none 0 0)=>jT op a K
 | some (.map _ _),.const (.map none)=>FO op a K
 | some (.interface _),.const .nilIface=>F7 op a K
 | some (.func _ _ _),.const .nilFunc=>F3 op a K
 | _,_=>False
def xB (P:Program) (env:Env) (h:ae) (o:Oper) (K:QT):Prop:=
 match o.op with
 | .makeMap _ none=>mo h K
 | .lookup t x i ok=>eG (opv env x) (opv env i) fun a b=>DT P t fun d z=>c5 d ok (ofV z) a b h fun r=>K r h
 | .mapUpdate t m k v=>eG (opv env m) (opv env k) fun a b=>bV (opv env v) fun c=>Bw P t fun d=>bT d a b c h fun h'=>K (.tup []) h'
 | .insert t m k v=>eG (opv env m) (opv env k) fun a b=>bV (opv env v) fun c=>Bw P t fun d=>bT d a b c h fun h'=>K (.tup []) h'
 | .mapEntry t m k=>eG (opv env m) (opv env k) fun a b=>DT P t fun d z=>qz d (ofV z) a b h K
 | .entryStore t m s v=>eG (opv env m) (opv env s) fun a b=>bV (opv env v) fun c=>lU a b c h fun h'=>K (.tup []) h'
 | .range t x=>bV (opv env x) fun a=>match P.underlying t with
   | some .string=>vC a h K
   | some (.map _ _)=>vG a h K
   | _=>False
 | .next x b=>bV (opv env x) fun a=>if b=true then Ba a h K else AD a h K
 | .entry x=>bV (opv env x) fun a=>Ay a h fun r=>K r h
 | .makeSlice t l c=>eG (opv env l) (opv env c) fun a b=>match P.underlying t with
   | some (.slice e)=>(match P.info? e with
     | some i=>(match i.zero with|some z=>if (i.size==1&&z.oneCell')=true then lK i.bytes (IQ z) a b h K else False|none=>False)
     | none=>False)
   | _=>False
 | .convert s d x=>bV (opv env x) fun a=>match P.underlying s,P.underlying d with
   | some (.slice e),some .string=>if yS P e=true then qx a h fun r=>K r h else False
   | some .string,some (.slice e)=>if yS P e=true then qC a h K else False
   | _,_=>False
 | .binOp op t x y _=>match P.underlying t with
   | some (.struct fs)=>eG (opv env x) (opv env y) fun a b=>(match yA P fs.toList 0 with
     | some ds=>if (!P.stoodInHeld t&&!P.eqGuardType P.depth t)=true then QU op ds a b fun r=>K r h else False
     | none=>False)
   | _=>bV (opv env x) fun a=>yT P op t a y fun r=>K r h
 | .call c=>match c.callee with
   | .builtin .delete=>d7 (kZ env c.args.toList) fun vs=>(match vs,c.argTypes.toList with
     | [m,k],t::_=>Bw P t fun d=>qp d m k h fun h'=>K (.tup []) h'
     | _,_=>False)
   | _=>False
 | _=>False
def x4 (P:Program) (env:Env) (h:ae) (o:Oper) (K:QT):Prop:=if EZ P o.op=true then xB P env h o K else wR P env h o K
theorem FT {t:TypeId}{K:TypeDesc→Value→Prop}(k:DT P t K):∃ kt et d i z,P.underlying t=some (.map kt et)∧P.underlying kt=some d∧P.info? et=some i∧i.zero=some z∧okV z=true∧K d z:=by
 unfold DT at k
 split at k
 ·split at k
  ·split at k
   ·split at k
    ·exact⟨_,_,_,_,_,‹_›,‹_›,‹_›,‹_›,‹_›,k⟩
    ·exact k.elim
   ·exact k.elim
  ·exact k.elim
 ·exact k.elim
theorem Bo {t:TypeId}{K:TypeDesc→Prop}(k:Bw P t K):∃ kt et d,P.underlying t=some (.map kt et)∧P.underlying kt=some d∧K d:=by
 unfold Bw at k
 split at k
 ·split at k
  ·exact⟨_,_,_,‹_›,‹_›,k⟩
  ·exact k.elim
 ·exact k.elim
theorem Gl {e:TypeId}(h:yS P e=true):P.underlying e=some (.int .u8):=by
 unfold yS at h
 split at h
 ·assumption
 ·cases h
theorem Z7 {m:Sem Unit}{K:ae→Prop}(k:∃ h' G' w',m.run P w=.ok () w'∧K h'∧Sim G' h' w'∧Evo G h w G' h' w'):UpV P (N0 G h w fun v h'=>v=.tup []∧K h') ((do m;pure .skip:Sem Next).run P w):=by
 obtain⟨h',G',w',q1,q2,q3,q4⟩:=k
 simp only[Sem.run_bind,q1,Result.andThen_ok,Sem.run_pure]
 exact⟨.tup [],h',G',by simp[Rep,RepL,undef],⟨rfl,q2⟩,q3,q4⟩
theorem X3 {N N':Value→World→Prop}(hk:∀ v w,N v w→N' v w) {r:Result Next}(k:UpV P N r):UpV P N' r:=by
 unfold UpV at *
 split at k
 ·exact hk _ _ k
 ·exact hk _ _ k
 ·exact Calls.mono k fun e w'' ⟨v,he,hv⟩=>⟨v,he,hk _ _ hv⟩
 ·exact k.elim
theorem HE {m:Sem Unit}{K:QT}(k:∃ h' G' w',m.run P w=.ok () w'∧K (.tup []) h'∧Sim G' h' w'∧Evo G h w G' h' w'):UpV P (N0 G h w K) ((do m;pure .skip:Sem Next).run P w):=
 X3 (fun v w' ⟨r,h',G',q1,⟨q2,q3⟩,q4,q5⟩=>⟨r,h',G',q1,by subst q2;exact q3,q4,q5⟩) (Z7 (K:=K (.tup [])) k)
theorem abm (s:Sim G h w) {env:Env}{a:Act}(r:EnvRep G env a.tmps) {o:Oper}{K:QT}(k:xB P env h o K):UpV P (N0 G h w K) ((execOp a.eval o).run P w):=by
 obtain⟨dst,op,ty,pos,after,guard⟩:=o
 cases op<;>simp only[xB]at k<;>try exact k.elim
 case makeMap t re=>
  cases re with
  | none=>exact g6 (Pq s k.out)
  | some x=>exact k.elim
 case lookup t x i ok=>
  obtain⟨v,h1,k⟩:=aH k
  obtain⟨u,h2,k⟩:=aH k
  obtain⟨kt,et,d,inf,z,q1,q2,q3,q4,q5,k⟩:=FT k
  exact be s (Rh s q1 q2 q3 q4 q5 (aQ r h1) (aQ r h2) k.out)
 case mapUpdate t m i x=>
  obtain⟨v,h1,k⟩:=aH k
  obtain⟨u,h2,k⟩:=aH k
  obtain⟨y,h3,k⟩:=aH k
  obtain⟨kt,et,d,q1,q2,k⟩:=Bo k
  exact HE (Ab s q1 q2 (aQ r h1) (aQ r h2) (aQ r h3) k.out)
 case insert t m i x=>
  obtain⟨v,h1,k⟩:=aH k
  obtain⟨u,h2,k⟩:=aH k
  obtain⟨y,h3,k⟩:=aH k
  obtain⟨kt,et,d,q1,q2,k⟩:=Bo k
  exact HE (Ab s q1 q2 (aQ r h1) (aQ r h2) (aQ r h3) k.out)
 case mapEntry t m i=>
  obtain⟨v,h1,k⟩:=aH k
  obtain⟨u,h2,k⟩:=aH k
  obtain⟨kt,et,d,inf,z,q1,q2,q3,q4,q5,k⟩:=FT k
  exact g6 (Nm s q1 q2 q3 q4 q5 (aQ r h1) (aQ r h2) k.out)
 case entryStore t m i x=>
  obtain⟨v,h1,k⟩:=aH k
  obtain⟨u,h2,k⟩:=aH k
  obtain⟨y,h3,k⟩:=aH k
  exact HE (H5 s (aQ r h1) (aQ r h2) (aQ r h3) k.out)
 case range t x=>
  obtain⟨v,h1,k⟩:=aH k
  split at k
  ·exact g6 (SQ s ‹_› (aQ r h1) k.out)
  ·exact g6 (Sn s ‹_› (aQ r h1) k.out)
  ·exact k.elim
 case next x b=>
  obtain⟨v,h1,k⟩:=aH k
  cases b
  ·exact g6 (VJ s (aQ r h1) k.out)
  ·exact g6 (U9 s (aQ r h1) k.out)
 case entry x=>
  obtain⟨v,h1,k⟩:=aH k
  exact be s (W3 s (aQ r h1) k.out)
 case makeSlice t l c=>
  obtain⟨v,h1,k⟩:=aH k
  obtain⟨u,h2,k⟩:=aH k
  split at k
  ·split at k
   ·split at k
    ·split at k
     ·rename_i hc
      simp only[Bool.and_eq_true,beq_iff_eq]at hc
      exact g6 (Jm s ‹_› ‹_› ‹_› hc.1 hc.2 (aQ r h1) (aQ r h2) k.out)
     ·exact k.elim
    ·exact k.elim
   ·exact k.elim
  ·exact k.elim
 case convert sr d x=>
  obtain⟨v,h1,k⟩:=aH k
  split at k
  ·split at k
   ·exact be s (Me s ‹_› (Gl ‹_›) ‹_› (aQ r h1) k.out)
   ·exact k.elim
  ·split at k
   ·exact g6 (MZ s ‹_› ‹_› (Gl ‹_›) (aQ r h1) k.out)
   ·exact k.elim
  ·exact k.elim
 case binOp op t x y yt=>
  split at k
  ·rename_i fs ht
   obtain⟨v,h1,k⟩:=aH k
   obtain⟨u,h2,k⟩:=aH k
   split at k
   ·split at k
    ·rename_i hc
     simp only[Bool.and_eq_true,Bool.not_eq_true']at hc
     exact be s (abo ht ‹_› hc.1 hc.2 (aQ r h1) (aQ r h2) k.out)
    ·exact k.elim
   ·exact k.elim
  ·obtain⟨v,h1,k⟩:=aH k
   unfold yT at k
   split at k
   ·exact be s (R7 ‹_› (aQ r h1) k.out)
   ·exact be s (Q7 ‹_› (aQ r h1) k.out)
   ·exact be s (R9 ‹_› (aQ r h1) k.out)
   ·exact be s (Se ‹_› (aQ r h1) k.out)
   ·exact k.elim
 case call c=>
  obtain⟨callee,args,argTypes⟩:=c
  simp only at k
  split at k
  ·obtain⟨vs,h1,k⟩:=dB k
   have hr:=jC r h1
   split at k
   ·rename_i m ke t ts hT
    obtain⟨kt,et,d,q1,q2,k⟩:=Bo k
    obtain⟨x,y,hx,hx2,hx3⟩:=hr.two
    have hargs:args.map a.eval=#[x,y]:=by apply Array.toList_inj.1;simpa using hx
    have hts:argTypes[0]?=some t:=by have:=congrArg (·[0]?) hT;simpa using this
    obtain⟨r',v',h',G',w',p1,p2,⟨p3,p4⟩,p5,p6⟩:=Ru (ty:=ty) s q1 q2 hx2 hx3 hts k.out
    subst p3
    simp only[execOp,resolve,Sem.run_bind,Sem.run_pure,Result.andThen_ok,invoke,builtin,hargs,p1]
    exact⟨_,h',G',p2,p4,p5,p6⟩
   ·exact k.elim
  ·exact k.elim
theorem aaJ (s:Sim G h w) {env:Env}{a:Act}(r:EnvRep G env a.tmps) {o:Oper}{K:QT}(k:x4 P env h o K):UpV P (N0 G h w K) ((execOp a.eval o).run P w):=by
 unfold x4 at k
 split at k
 ·exact abm s r k
 ·exact aaI s r k
theorem J3 {t:TypeId}{K K':TypeDesc→Value→Prop}(hk:∀ d z,K d z→K' d z) (k:DT P t K):DT P t K':=by
 unfold DT at *
 (repeat' split at k)<;>first|exact k.elim|(simp only[*,if_true];exact hk _ _ k)|(rw[if_pos ‹_›];exact hk _ _ k)
theorem Dk {t:TypeId}{K K':TypeDesc→Prop}(hk:∀ d,K d→K' d) (k:Bw P t K):Bw P t K':=by
 unfold Bw at *
 (repeat' split at k)<;>first|exact k.elim|exact hk _ k
theorem UI {env:Env}{h:ae}{o:Oper}{K K':QT}(hk:∀ v h,K v h→K' v h) (k:xB P env h o K):xB P env h o K':=by
 obtain⟨dst,op,ty,pos,after,guard⟩:=o
 have hk':∀ v,K v h→K' v h:=fun v=>hk v h
 have hk2:∀ h',K (.tup []) h'→K' (.tup []) h':=fun h'=>hk _ h'
 cases op<;>simp only[xB]at k ⊢<;>try exact k.elim
 case makeMap t re=>
  cases re with
  | none=>exact JA hk _ k
  | some x=>exact k.elim
 case lookup=>exact dN (fun _ _ k=>J3 (fun _ _ k=>vL hk' _ _ _ _ _ _ k) k) _ _ k
 case mapUpdate=>exact dN (fun _ _ k=>bm (fun _ k=>Dk (fun _ k=>wa hk2 _ _ _ _ _ k) k) _ k) _ _ k
 case insert=>exact dN (fun _ _ k=>bm (fun _ k=>Dk (fun _ k=>wa hk2 _ _ _ _ _ k) k) _ k) _ _ k
 case mapEntry=>exact dN (fun _ _ k=>J3 (fun _ _ k=>GA hk _ _ _ _ _ k) k) _ _ k
 case entryStore=>exact dN (fun _ _ k=>bm (fun _ k=>DS hk2 _ _ _ _ k) _ k) _ _ k
 case range=>
  refine bm (fun _ k=>?_) _ k
  split at k
  ·exact L7 hk _ _ k
  ·exact M9 hk _ _ k
  ·exact k.elim
 case next x b=>
  refine bm (fun _ k=>?_) _ k
  cases b
  ·exact P6 hk _ _ k
  ·exact QO hk _ _ k
 case entry=>exact bm (fun _ k=>yr hk' _ _ k) _ k
 case makeSlice=>
  refine dN (fun _ _ k=>?_) _ _ k
  (repeat' split at k)<;>first|exact k.elim|(rw[if_pos ‹_›];exact FC hk _ _ _ _ _ k)
 case convert=>
  refine bm (fun _ k=>?_) _ k
  (repeat' split at k)<;>first|exact k.elim|(rw[if_pos ‹_›];exact qJ hk' _ _ k)|(rw[if_pos ‹_›];exact IR hk _ _ k)
 case binOp=>
  split at k
  ·refine dN (fun _ _ k=>?_) _ _ k
   (repeat' split at k)<;>first|exact k.elim|(rw[if_pos ‹_›];exact DG hk' _ _ _ _ k)
  ·refine bm (fun _ k=>?_) _ k
   unfold yT at *
   split at k
   ·exact CN hk' _ _ k
   ·exact vH hk' _ _ k
   ·exact uJ hk' _ _ k
   ·exact vJ hk' _ _ k
   ·exact k.elim
 case call c=>
  split at k
  ·refine fm (fun _ k=>?_) _ k
   split at k
   ·exact Dk (fun _ k=>Nl hk2 _ _ _ _ k) k
   ·exact k.elim
  ·exact k.elim
theorem WZ {env:Env}{h:ae}{o:Oper}{K K':QT}(hk:∀ v h,K v h→K' v h) (k:x4 P env h o K):x4 P env h o K':=by
 unfold x4 at *
 split at k
 ·rename_i hn;rw[if_pos hn];exact UI hk k
 ·rename_i hn;rw[if_neg hn];exact UX hk k
end
end
section
variable [Tabs]
section
variable {P:Program}{G:Gh}{h:ae}{w:World}
omit [Tabs] in
theorem Ie {α:Type}(l:List α) (off:Nat):splice l off []=l:=by simp[splice]
omit [Tabs] in
theorem PJ {i:Nat}{o:AObj}(hi:h[i]?=some o):h.set i o=h:=by
 apply List.ext_getElem?
 intro j
 rw[List.getElem?_set]
 split
 ·rename_i e;subst e
  split
  ·exact hi.symm
  ·rename_i hn;rw[List.getElem?_eq_none (by omega)]at hi;cases hi
 ·rfl
theorem KQ (s:Sim G h w) {i off len sz:Nat}{cs xs:List AV}{x:Value}(hcs:h[i]?=some (.cells cs)) (hx:Rep G (.sl i off len sz) x) {vs:List Value}(hv:RepL G xs vs) (hone:xs.all AV.one=true) (hl:xs.length≤len*sz) (hle:off+len*sz≤cs.length):
  ∃ b c,x=.slice (some b) len c∧∃ G' w',(storeCells b vs).run P w=.ok () w'∧Sim G' (h.set i (.cells (splice cs off xs))) w'∧Evo G h w G' (h.set i (.cells (splice cs off xs))) w':=by
 simp only[Rep]at hx
 obtain⟨b,o,c,ad,h1,h2,h3,h4,rfl⟩:=hx
 refine⟨_,_,rfl,?_⟩
 have hlv:=hv.length
 rcases Nat.eq_zero_or_pos c with hc0|hc0
 ·have:xs=[]:=by
   have:len=0:=by omega
   subst this
   exact List.length_eq_zero_iff.1 (by omega)
  subst this
  simp only[RepL]at hv
  subst hv
  refine⟨G,w,by simp[storeCells],?_,?_⟩
  ·rw[Ie,PJ hcs];exact s
  ·rw[Ie,PJ hcs];exact Evo.refl _ _ _
 ·obtain rfl:=h4 hc0
  obtain⟨b',o',arr,el,lo,hi',e1,e2,e3,e4,e5,e6⟩:=rH s hcs
  rw[h1]at e1
  cases e1
  obtain⟨arr',q2,q3⟩:=u6 (P:=P) b (o+off) el lo hi' vs 0 arr w e2 e3 (by omega) (FS hv hone)
  have hsz:arr'.size=arr.size:=by
   have:=congrArg List.length q3
   rw[gC (by simp;omega)]at this
   simpa using this
  have x:ObjAt G (du w b (.cells arr' el (lo,hi'))) i (.cells (splice cs off xs)):=by
   refine⟨b,o,arr',el,lo,hi',h1,nW w b _ (Array.getElem?_eq_some_iff.1 e2).1,by rw[hsz];exact e3,by rw[gC (by omega)];exact e4,by rw[hsz];exact e5,?_⟩
   intro q a ha
   rw[dy (by omega)]at ha
   have hget:arr'[o+q]?=arr'.toList[o+q]?:=by simp
   rw[hget,q3,dy (by simp;omega)]
   by_cases c1:q<off
   ·rw[if_pos c1]at ha
    rw[if_pos (by omega)]
    simpa using e6 q a ha
   ·rw[if_neg c1]at ha
    rw[if_neg (by omega)]
    by_cases c2:q<off+xs.length
    ·rw[if_pos c2]at ha
     rw[if_pos (by omega)]
     obtain⟨v,h4,h5⟩:=hv.at _ a ha
     exact⟨v,by rw[← h4];congr 1;omega,h5⟩
    ·rw[if_neg c2]at ha
     rw[if_neg (by omega)]
     simpa using e6 q a ha
  obtain⟨s',ev⟩:=w9 s hcs rfl h1 rfl x
  exact⟨_,_,q2,s',ev⟩
theorem Er (s:Sim G h w) {size:Nat}{v:AV}{x:Value}(hx:Rep G v x) {m:Nat}{xs:List AV}(e:cu h size v=some (m,xs)) {k:Nat}(hk:k≤m):
  ∃ vs:List Value,RepL G (xs.take (k*size)) vs∧(Builtin.firstCells size k x).run P w=.ok vs.toArray w:=by
 have hmul:k*size≤m*size:=Nat.mul_le_mul_right _ hk
 have snap:∀ (n c:Nat) (cs:List AV) (base:Option Addr),cu h size (.snap n cs)=some (m,xs)→k≤n→(cs=[]∧n=0∨∃ b o,base=some ⟨b,o,none⟩∧RepAt G cs b o)→
   ∃ vs:List Value,RepL G (xs.take (k*size)) vs∧(Builtin.firstCells size k (.slice base n c)).run P w=.ok vs.toArray w:=by
  intro n c cs base e hkn hb
  simp only[cu]at e
  split at e
  ·rename_i hl
   cases e
   rcases hb with ⟨rfl,rfl⟩|⟨b,o,rfl,h2⟩
   ·exact⟨[],by simp[RepL],by rw[show k=0 by omega];cases base<;>simp[Builtin.firstCells,loadCells,loadCellsFrom]⟩
   ·obtain⟨vs,h3,h4,h5⟩:=vd s h2 hl
    refine⟨vs.take (k*size),?_,?_⟩
    ·refine jH (by simp;omega) fun j a ha=>?_
     rw[List.getElem?_take]at ha ⊢
     split at ha
     ·rename_i hj;rw[if_pos hj];exact h4.at j a ha
     ·cases ha
    ·have:=run_loadCells_list (P:=P) w ⟨b,o,none⟩ (vs.take (k*size)) (fun j v hj=>by
      rw[dL]
      rw[List.getElem?_take]at hj
      split at hj
      ·exact h5 j v hj
      ·cases hj)
     have hlen:(vs.take (k*size)).length=k*size:=by simp;omega
     rw[hlen]at this
     simpa [Builtin.firstCells] using this
  ·cases e
 unfold cu at e
 split at e
 ·rename_i n cs
  have hn:n=m:=by split at e<;>cases e;rfl
  simp only[Rep]at hx
  rcases hx with ⟨rfl,rfl,za,rfl⟩|⟨b,o,c,h1,rfl,h2⟩
  ·exact snap 0 0 [] za (by simpa [cu] using e) (by omega) (.inl ⟨rfl,rfl⟩)
  ·exact snap n c cs _ (by simpa [cu] using e) (by omega) (.inr ⟨b,o,rfl,h2⟩)
 ·rename_i n cs
  have hn:n=m:=by split at e<;>cases e;rfl
  simp only[Rep]at hx
  rcases hx with ⟨rfl,rfl,za,rfl⟩|⟨b,o,rfl,h2⟩
  ·exact snap 0 0 [] za (by simpa [cu] using e) (by omega) (.inl ⟨rfl,rfl⟩)
  ·exact snap n n cs _ (by simpa [cu] using e) (by omega) (.inr ⟨b,o,rfl,h2⟩)
 ·rename_i i off len sz
  split at e
  ·rename_i cs hcs
   split at e
   ·rename_i hc
    obtain⟨rfl,hle⟩:=hc
    cases e
    simp only[Rep]at hx
    obtain⟨b,o,c,ad,h1,h2,h3,h4,rfl⟩:=hx
    obtain⟨vs,q1,q2,_,q4⟩:=nR (P:=P) (size:=sz) s (v:=.sl i off k sz) (x:=.slice (some ⟨b,ad,none⟩) k c) (by
     simp only[Rep];exact⟨b,o,c,ad,h1,h2,by omega,h4,rfl⟩) (m:=k) (xs:=(cs.drop off).take (k*sz)) (by simp[cu,hcs];omega)
    refine⟨vs,?_,?_⟩
    ·rw[List.take_take,Nat.min_eq_left hmul];exact q2
    ·simpa [Builtin.firstCells] using q4
   ·cases e
  ·cases e
 ·rename_i s'
  split at e
  ·rename_i h1
   subst h1
   cases e
   simp only[Rep]at hx
   obtain⟨rfl,_⟩:=hx
   refine⟨(s'.data.toList.take k).map fun b=>Value.int .u8 b.toNat,by rw[Nat.mul_one,← List.map_take];exact A5 G _,?_⟩
   simp only[Builtin.firstCells,Sem.run_pure]
   congr 1
   apply Array.toList_inj.1
   simp[ByteArray.extract,ByteArray.copySlice]
  ·cases e
 ·cases e
def Ek (size:Nat) (v x:AV) (h:ae) (K:QT):Prop:=
 match cu h size x with
 | none=>False
 | some (m,xs)=>match v with
   | .sl i off len sz=>(match h[i]? with
     | some (.cells cs)=>(sz=size∧off+len*size≤cs.length∧xs.all AV.one=true)∧K (I (Nat.min m len)) (h.set i (.cells (splice cs off (xs.take (Nat.min m len*size)))))
     | _=>False)
   | .full n _=>Nat.min m n=0∧K (I 0) h
   | .snap n _=>Nat.min m n=0∧K (I 0) h
   | _=>False
structure ada (size:Nat) (v x:AV) (h:ae) (K:QT):Prop where
 mk::(out:Ek size v x h K)
theorem Z3 (s:Sim G h w) {t e ty:TypeId}{ts:Array TypeId}{i:TypeInfo}(ht0:ts[0]?=some t) (ht:P.underlying t=some (.slice e)) (hi:P.info? e=some i) {v x:AV}{a b:Value}(hx:Rep G v a) (hy:Rep G x b) {K:QT}(k:Ek i.size v x h K):
  Ye P G h w (Builtin.copy_ ts ty #[a,b]) K:=by
 unfold Ek at k
 split at k
 ·exact k.elim
 ·rename_i m xs hxs
  obtain⟨_,_,_,hm,_⟩:=nR (P:=P) s hy hxs
  have none_:∀ (base:Option Addr) (n c:Nat),a=.slice base n c→Nat.min m n=0→K (I 0) h→Ye P G h w (Builtin.copy_ ts ty #[a,b]) K:=by
   rintro base n c rfl hmn k
   obtain⟨vs,hv1,hv2⟩:=Er (P:=P) s hy hxs (k:=0) (Nat.zero_le _)
   simp only[Nat.zero_mul,List.take_zero,RepL]at hv1
   subst hv1
   refine⟨I 0,.int .i64 0,h,G,w,?_,by simp[Rep,Value.oneCell'],k,s,Evo.refl _ _ _⟩
   have hmn':min m n=0:=hmn
   cases base<;>simp[Builtin.copy_,ht0,run_underlying ht,hm,sizeOf,typeInfo,hi,hmn',hv2,storeCells,goInt]
  split at k
  ·rename_i j off len sz
   split at k
   ·rename_i cs hcs
    obtain⟨⟨rfl,hle,hone⟩,k⟩:=k
    have hkm:Nat.min m len≤m:=Nat.min_le_left _ _
    have hkl:Nat.min m len≤len:=Nat.min_le_right _ _
    obtain⟨vs,hv1,hv2⟩:=Er (P:=P) s hy hxs hkm
    obtain⟨ba,c,rfl,G',w',q1,q2,q3⟩:=KQ (P:=P) s hcs hx hv1 (by
     rw[List.all_eq_true]at hone ⊢;exact fun y hy=>hone y (List.mem_of_mem_take hy)) (by simp only[List.length_take];exact Nat.le_trans (Nat.min_le_left _ _) (Nat.mul_le_mul_right _ hkl)) hle
    refine⟨_,.int .i64 (Nat.min m len),_,G',w',?_,by simp[Rep,Value.oneCell'],k,q2,q3⟩
    have hv2':(Builtin.firstCells i.size (min m len) b).run P w=.ok vs.toArray w:=hv2
    simp[Builtin.copy_,ht0,run_underlying ht,hm,sizeOf,typeInfo,hi,hv2',q1,goInt]
   ·exact k.elim
  ·rename_i n cs
   simp only[Rep]at hx
   rcases hx with ⟨rfl,rfl,za,rfl⟩|⟨bb,o,rfl,h2⟩
   ·exact none_ _ _ _ rfl k.1 k.2
   ·exact none_ _ _ _ rfl k.1 k.2
  ·rename_i n cs
   simp only[Rep]at hx
   rcases hx with ⟨rfl,rfl,za,rfl⟩|⟨bb,o,c,_,rfl,h2⟩
   ·exact none_ _ _ _ rfl k.1 k.2
   ·exact none_ _ _ _ rfl k.1 k.2
  ·exact k.elim
theorem RR {size:Nat}{v x:AV}{h:ae}{K K':QT}(hk:∀ v h,K v h→K' v h) (k:Ek size v x h K):Ek size v x h K':=by
 unfold Ek at *
 split at k
 ·exact k.elim
 ·split at k
  ·split at k
   ·exact⟨k.1,hk _ _ k.2⟩
   ·exact k.elim
  ·exact⟨k.1,hk _ _ k.2⟩
  ·exact⟨k.1,hk _ _ k.2⟩
  ·exact k.elim
def xR (size:Nat) (u v:AV) (h:ae) (K:ae→Prop):Prop:=
 match v with
 | .sl i off len sz=>(match h[i]? with
   | some (.cells cs)=>(u.isTup=false∧u.cells.length=size∧sz=size∧off+len*size≤cs.length∧u.cells.all AV.one=true)∧K (h.set i (.cells (splice cs off (List.replicate len u.cells).flatten)))
   | _=>False)
 | .full 0 _=>K h
 | .snap 0 _=>K h
 | _=>False
structure acB (size:Nat) (u v:AV) (h:ae) (K:ae→Prop):Prop where
 mk::(out:xR size u v h K)
omit [Tabs] in
theorem yD (zs:Array Value):∀ n,(Builtin.zeroCells zs n).toList=(List.replicate n zs.toList).flatten
 | 0=>by simp[Builtin.zeroCells]
 | n+1=>by
   have ih:=yD zs n
   rw[List.replicate_succ',List.flatten_append,← ih]
   simp only[Builtin.zeroCells,Array.toList_map,Array.toList_range,List.flatten_cons,List.flatten_nil,List.append_nil]
   rw[Nat.succ_mul,List.range_add,List.map_append]
   congr 1
   rw[List.map_map]
   apply List.ext_getElem?
   intro j
   simp only[List.getElem?_map,Function.comp_apply]
   by_cases hj:j<zs.size
   ·simp[hj,Nat.mod_eq_of_lt hj]
   ·simp[hj]
theorem PY {G:Gh}{cs:List AV}{vs:List Value}(r:RepL G cs vs):∀ n,RepL G (List.replicate n cs).flatten (List.replicate n vs).flatten
 | 0=>by simp[RepL]
 | n+1=>by rw[List.replicate_succ,List.replicate_succ,List.flatten_cons,List.flatten_cons];exact r.append (PY r n)
theorem VS (s:Sim G h w) {t e ty:TypeId}{ts:Array TypeId}{i:TypeInfo}{z:Value}(ht0:ts[0]?=some t) (ht:P.underlying t=some (.slice e)) (hi:P.info? e=some i) (hz:i.zero=some z) {u v:AV}{a:Value}(hx:Rep G v a) (hu:Rep G u z) {K:ae→Prop}(k:xR i.size u v h K):
  Ye P G h w (Builtin.clear_ ts ty #[a]) (fun r h'=>r=.tup []∧K h'):=by
 unfold xR at k
 split at k
 ·rename_i j off len sz
  split at k
  ·rename_i cs hcs
   obtain⟨⟨hut,hul,rfl,hle,hone⟩,k⟩:=k
   have hc:=hu.cells hut
   have hrr:=PY hc len
   have hlen:(List.replicate len u.cells).flatten.length=len*i.size:=by simp[List.length_flatten,hul]
   have hone':(List.replicate len u.cells).flatten.all AV.one=true:=by
    rw[List.all_eq_true]at hone ⊢
    intro y hy
    obtain⟨l,h1,h2⟩:=List.mem_flatten.1 hy
    rw[(List.mem_replicate.1 h1).2]at h2
    exact hone y h2
   obtain⟨ba,c,rfl,G',w',q1,q2,q3⟩:=KQ (P:=P) s hcs hx hrr hone' (by omega) hle
   refine⟨.tup [],.tuple #[],_,G',w',?_,by simp[Rep,RepL],⟨rfl,k⟩,q2,q3⟩
   rw[← yD]at q1
   cases len with
   | zero=>
     have:w'=w:=by
      simp[Builtin.zeroCells,storeCells]at q1
      exact q1.symm
     subst this
     simp[Builtin.clear_,ht0,run_underlying ht]
   | succ len=>simp[Builtin.clear_,ht0,run_underlying ht,zeroValue,typeInfo,hi,hz,q1]
  ·exact k.elim
 ·simp only[Rep]at hx
  refine⟨.tup [],.tuple #[],h,G,w,?_,by simp[Rep,RepL],⟨rfl,k⟩,s,Evo.refl _ _ _⟩
  rcases hx with ⟨_,rfl,za,rfl⟩|⟨bb,o,rfl,h2⟩<;>(try cases za)<;>simp[Builtin.clear_,ht0,run_underlying ht]
 ·simp only[Rep]at hx
  refine⟨.tup [],.tuple #[],h,G,w,?_,by simp[Rep,RepL],⟨rfl,k⟩,s,Evo.refl _ _ _⟩
  rcases hx with ⟨_,rfl,za,rfl⟩|⟨bb,o,c,_,rfl,h2⟩<;>(try cases za)<;>simp[Builtin.clear_,ht0,run_underlying ht]
 ·exact k.elim
theorem Oz {size:Nat}{u v:AV}{h:ae}{K K':ae→Prop}(hk:∀ h,K h→K' h) (k:xR size u v h K):xR size u v h K':=by
 unfold xR at *
 split at k
 ·split at k
  ·exact⟨k.1,hk _ k.2⟩
  ·exact k.elim
 ·exact hk _ k
 ·exact hk _ k
 ·exact k.elim
end
end
section
variable [Tabs]
section
variable {P:Program}{G:Gh}{h:ae}{w:World}
inductive Ext where
 | index
 | count
 | bits
 | frombits
def QH (P:Program) (f:FuncId):Option Ext:=match P.funcs[f]? with
 | some fn => if fn.body.isNone = true then (if (fn.name == "internal/bytealg.IndexByteString" && fn.origin == "") = true then some .index
   else if (fn.name == "internal/bytealg.CountString" && fn.origin == "") = true then some .count else if (fn.name == "math.Float64bits" && fn.origin == "") = true then some .bits else if (fn.name == "math.Float64frombits" && fn.origin == "") = true then some .frombits else none) else none
 | none=>none
def A1 (e:Ext) (vs:List AV) (K:AV→Prop):Prop:=
 match e,vs with
 | .index,[.lit (.string s),.lit (.int .u8 c)]=>K (I (Lib.indexByte s.data.toList c.toNat.toUInt8))
 | .count,[.lit (.string s),.lit (.int .u8 c)]=>K (I (Lib.countByte s.data.toList c.toNat.toUInt8))
 | .bits,[.lit (.float .f64 b)]=>K (.lit (.int .u64 b))
 | .frombits,[.lit (.int .u64 n)]=>K (.lit (.float .f64 n.toNat))
 | _,_=>False
structure Xh (e:Ext) (vs:List AV) (K:AV→Prop):Prop where
 mk::(out:A1 e vs K)
theorem Dw {e:Ext}{vs:List AV}{K K':AV→Prop}(hk:∀ r,K r→K' r) (k:A1 e vs K):A1 e vs K':=by
 unfold A1 at *
 split at k<;>first|exact hk _ k|exact k.elim
theorem Yw {e:Ext}{vs:List AV}{K:AV→Prop}(k:A1 e vs K):∃ v,K v∧A1 e vs fun r=>r=v:=by
 unfold A1 at *
 split at k<;>first|exact⟨_,k,rfl⟩|exact k.elim
theorem look_index : Extern.allGenericRows.lookup "internal/bytealg.IndexByteString" = none ∧ Extern.allTypedRows.lookup "internal/bytealg.IndexByteString" = none ∧ Extern.allRows.lookup "internal/bytealg.IndexByteString" = some Extern.BytealgIndexByte.indexByte := ⟨by kernel_rfl, by kernel_rfl, by kernel_rfl⟩
theorem look_count : Extern.allGenericRows.lookup "internal/bytealg.CountString" = none ∧ Extern.allTypedRows.lookup "internal/bytealg.CountString" = none ∧ Extern.allRows.lookup "internal/bytealg.CountString" = some Extern.BytealgCount.count := ⟨by kernel_rfl, by kernel_rfl, by kernel_rfl⟩
theorem look_bits : Extern.allGenericRows.lookup "math.Float64bits" = none ∧ Extern.allTypedRows.lookup "math.Float64bits" = none ∧ Extern.allRows.lookup "math.Float64bits" = some Extern.MathFloatBits.float64bits := ⟨by kernel_rfl, by kernel_rfl, by kernel_rfl⟩
theorem look_frombits : Extern.allGenericRows.lookup "math.Float64frombits" = none ∧ Extern.allTypedRows.lookup "math.Float64frombits" = none ∧ Extern.allRows.lookup "math.Float64frombits" = some Extern.MathFloatBits.float64frombits := ⟨by kernel_rfl, by kernel_rfl, by kernel_rfl⟩
theorem look_next2 : Extern.allNextRows.lookup "math.Float64bits" = none ∧ Extern.allNextRows.lookup "math.Float64frombits" = none := ⟨by kernel_rfl, by kernel_rfl⟩
theorem look_next : Extern.allNextRows.lookup "internal/bytealg.IndexByteString" = none ∧ Extern.allNextRows.lookup "internal/bytealg.CountString" = none ∧ Extern.allNextRows.lookup "" = none := ⟨by kernel_rfl, by kernel_rfl, by kernel_rfl⟩
theorem aar {f:FuncId}{e:Ext}(he:QH P f=some e) {vs:List AV}{xs:Array Value}(hr:RepL G vs xs.toList) {K:AV→Prop}(k:A1 e vs K):
  ∃ r v,(callFunc f xs).run P w=.ok (.value v) w∧Rep G r v∧K r:=by
 unfold QH at he
 split at he
 ·rename_i fn hf
  split at he
  ·rename_i hb
   split at he
   ·rename_i hn
    cases he
    simp only[Bool.and_eq_true,beq_iff_eq]at hn
    have h1:Extern.findNext fn=none:=by unfold Extern.findNext;simp only[hn.1,hn.2,look_next.1,look_next.2.2];rfl
    have h2:Extern.find fn=some Extern.BytealgIndexByte.indexByte:=by unfold Extern.find;simp only[hn.1,look_index.1,look_index.2.1,look_index.2.2];rfl
    rw[run_callFunc_extern hf (by rw[hn.1];decide) hb h1 h2]
    have k:∃ s c,vs=[.lit (.string s),.lit (.int .u8 c)]∧K (I (Lib.indexByte s.data.toList c.toNat.toUInt8)):=by
     unfold A1 at k;split at k<;>first|contradiction|exact⟨_,_,rfl,k⟩|exact k.elim
    obtain⟨s,c,rfl,k⟩:=k
    ·obtain⟨a,b,hx,ha,hb⟩:=hr.two
     simp only[Rep]at ha hb
     have:xs=#[a,b]:=by apply Array.toList_inj.1;simpa using hx
     rw[this,ha.1,hb.1,run_indexByte_string,Lib.firstIdx_eq]
     exact⟨_,_,rfl,by simp[Rep,Value.oneCell'],k⟩
   ·split at he
    ·rename_i hn
     cases he
     simp only[Bool.and_eq_true,beq_iff_eq]at hn
     have h1:Extern.findNext fn=none:=by unfold Extern.findNext;simp only[hn.1,hn.2,look_next.2.1,look_next.2.2];rfl
     have h2:Extern.find fn=some Extern.BytealgCount.count:=by unfold Extern.find;simp only[hn.1,look_count.1,look_count.2.1,look_count.2.2];rfl
     rw[run_callFunc_extern hf (by rw[hn.1];decide) hb h1 h2]
     have k:∃ s c,vs=[.lit (.string s),.lit (.int .u8 c)]∧K (I (Lib.countByte s.data.toList c.toNat.toUInt8)):=by
      unfold A1 at k;split at k<;>first|contradiction|exact⟨_,_,rfl,k⟩|exact k.elim
     obtain⟨s,c,rfl,k⟩:=k
     ·obtain⟨a,b,hx,ha,hb⟩:=hr.two
      simp only[Rep]at ha hb
      have:xs=#[a,b]:=by apply Array.toList_inj.1;simpa using hx
      rw[this,ha.1,hb.1,Lib.run_countString]
      exact⟨_,_,rfl,by simp[Rep,Value.oneCell'],k⟩
    ·split at he
     ·rename_i hn
      cases he
      simp only[Bool.and_eq_true,beq_iff_eq]at hn
      have h1:Extern.findNext fn=none:=by unfold Extern.findNext;simp only[hn.1,hn.2,look_next2.1,look_next.2.2];rfl
      have h2:Extern.find fn=some Extern.MathFloatBits.float64bits:=by unfold Extern.find;simp only[hn.1,look_bits.1,look_bits.2.1,look_bits.2.2];rfl
      rw[run_callFunc_extern hf (by rw[hn.1];decide) hb h1 h2]
      have k:∃ b,vs=[.lit (.float .f64 b)]∧K (.lit (.int .u64 b)):=by
       unfold A1 at k;split at k<;>first|contradiction|exact⟨_,rfl,k⟩|exact k.elim
      obtain⟨b,rfl,k⟩:=k
      obtain⟨a,hx,ha⟩:=hr.single
      simp only[Rep]at ha
      have:xs=#[a]:=by apply Array.toList_inj.1;simpa using hx
      rw[this,ha.1]
      exact⟨_,_,rfl,by simp[Rep,Value.oneCell'],k⟩
     ·split at he
      ·rename_i hn
       cases he
       simp only[Bool.and_eq_true,beq_iff_eq]at hn
       have h1:Extern.findNext fn=none:=by unfold Extern.findNext;simp only[hn.1,hn.2,look_next2.2,look_next.2.2];rfl
       have h2:Extern.find fn=some Extern.MathFloatBits.float64frombits:=by unfold Extern.find;simp only[hn.1,look_frombits.1,look_frombits.2.1,look_frombits.2.2];rfl
       rw[run_callFunc_extern hf (by rw[hn.1];decide) hb h1 h2]
       have k:∃ n,vs=[.lit (.int .u64 n)]∧K (.lit (.float .f64 n.toNat)):=by
        unfold A1 at k;split at k<;>first|contradiction|exact⟨_,rfl,k⟩|exact k.elim
       obtain⟨n,rfl,k⟩:=k
       obtain⟨a,hx,ha⟩:=hr.single
       simp only[Rep]at ha
       have:xs=#[a]:=by apply Array.toList_inj.1;simpa using hx
       rw[this,ha.1]
       exact⟨_,_,rfl,by simp[Rep,Value.oneCell'],k⟩
      ·cases he
  ·cases he
 ·cases he
def isX (P:Program):Op→Bool
 | .call c=>match c.callee with
   | .value (.func f)=>(QH P f).isSome
   | .builtin .copy=>true
   | .builtin .clear=>true
   | _=>false
 | .indexAddr _ (.global _) _=>true
 | .load _ (.global _)=>true
 | _=>false
def Zq:Op→Bool
 | .call c=>match c.callee with
   | .value (.func _)=>true
   | _=>false
 | .indexAddr _ (.global _) _=>true
 | .load _ (.global _)=>true
 | _=>false
def HN (P:Program) (ts:Array TypeId) (K:Value→TypeInfo→Prop):Prop:=
 match ts.toList with
 | t::_=>(match P.underlying t with
   | some (.slice e)=>(match P.info? e with
     | some i=>(match i.zero with|some z=>if okV z=true then K z i else False|none=>False)
     | none=>False)
   | _=>False)
 | _=>False
theorem F8 {ts:Array TypeId}{K:Value→TypeInfo→Prop}(k:HN P ts K):∃ t e i z,ts[0]?=some t∧P.underlying t=some (.slice e)∧P.info? e=some i∧i.zero=some z∧okV z=true∧K z i:=by
 unfold HN at k
 split at k
 ·rename_i t rest ht
  split at k
  ·split at k
   ·split at k
    ·split at k
     ·refine⟨t,_,_,_,?_,by assumption,by assumption,by assumption,by assumption,k⟩
      rw[← Array.getElem?_toList,ht];rfl
     ·exact k.elim
    ·exact k.elim
   ·exact k.elim
  ·exact k.elim
 ·exact k.elim
theorem KR {ts:Array TypeId}{K K':Value→TypeInfo→Prop}(hk:∀ z i,K z i→K' z i) (k:HN P ts K):HN P ts K':=by
 unfold HN at *
 split at k
 ·split at k
  ·split at k
   ·split at k
    ·split at k
     ·rename_i h;rw[if_pos h];exact hk _ _ k
     ·exact k.elim
    ·exact k.elim
   ·exact k.elim
  ·exact k.elim
 ·exact k.elim
def wV (P:Program) (env:Env) (h:ae) (o:Oper) (K:QT):Prop:=
 match o.op with
 | .call c=>match c.callee with
   | .value (.func f)=>d7 (kZ env c.args.toList) fun vs=>(match QH P f with|some e=>Xh e vs fun r=>K r h|none=>False)
   | .builtin .copy=>d7 (kZ env c.args.toList) fun vs=>HN P c.argTypes fun _ i=>(match vs with|[v,x]=>ada i.size v x h K|_=>False)
   | .builtin .clear=>d7 (kZ env c.args.toList) fun vs=>HN P c.argTypes fun z i=>(match vs with|[v]=>acB i.size (ofV z) v h fun h'=>K (.tup []) h'|_=>False)
   | _=>False
 | .indexAddr t (.global g) i=>(match Tabs.tab g with
   | some cs=>bV (opv env i) fun iv=>eI P t (.cptr cs) iv fun r=>K r h
   | none=>False)
 | .load t (.global g)=>(match Tabs.tab g with
   | some cs=>lu P t (.cptr cs) h fun r=>K r h
   | none=>False)
 | _=>False
def aop (P:Program) (env:Env) (h:ae) (o:Oper) (K:QT):Prop:=if isX P o.op=true then wV P env h o K else x4 P env h o K
theorem Uk (s:Sim G h w) {g:Nat}{cs:List AV}(hg:Tabs.tab g=some cs) (a:Act):Rep G (.cptr cs) (a.eval (.global g)):=by
 simp only[Act.eval,Rep]
 exact⟨g,0,rfl,Tabs.tab_ok G g cs s.tab hg⟩
theorem aam (s:Sim G h w) {env:Env}{a:Act}(r:EnvRep G env a.tmps) {o:Oper}{K:QT}(k:wV P env h o K):UpV P (N0 G h w K) ((execOp a.eval o).run P w):=by
 obtain⟨dst,op,ty,pos,after,guard⟩:=o
 cases op<;>simp only[wV]at k<;>try exact k.elim
 case call c=>
  obtain⟨callee,args,argTypes⟩:=c
  simp only at k
  split at k
  ·rename_i f
   obtain⟨vs,h1,k⟩:=dB k
   split at k
   ·rename_i e he
    have hr:=jC r h1
    obtain⟨rr,v,q1,q2,q3⟩:=aar (w:=w) (xs:=args.map a.eval) he (by simpa using hr) k.out
    simp only[execOp,resolve,Deferred.ofValue,Act.eval,Sem.run_bind,Sem.run_pure,Result.andThen_ok,invoke,Array.append_empty,Array.empty_append]
    rw[q1]
    exact⟨rr,h,G,q2,q3,s,Evo.refl _ _ _⟩
   ·exact k.elim
  ·obtain⟨vs,h1,k⟩:=dB k
   obtain⟨t,e,i,z,ht0,ht,hi,hz,hzo,k2⟩:=F8 k
   have hr:=jC r h1
   clear k
   split at k2
   ·rename_i v u
    obtain⟨x,y,hx,hx2,hx3⟩:=(show RepL G [v,u] (args.map a.eval).toList by simpa using hr).two
    have hargs:args.map a.eval=#[x,y]:=by apply Array.toList_inj.1;simpa using hx
    obtain⟨r',v',h',G',w',q1,q2,q3,q4,q5⟩:=Z3 (ty:=ty) s ht0 ht hi hx2 hx3 k2.out
    simp only[execOp,resolve,Sem.run_bind,Sem.run_pure,Result.andThen_ok,invoke,builtin,hargs,q1]
    exact⟨r',h',G',q2,q3,q4,q5⟩
   ·exact k2.elim
  ·obtain⟨vs,h1,k⟩:=dB k
   obtain⟨t,e,i,z,ht0,ht,hi,hz,hzo,k2⟩:=F8 k
   have hr:=jC r h1
   clear k
   split at k2
   ·rename_i v
    obtain⟨x,hx,hx2⟩:=(show RepL G [v] (args.map a.eval).toList by simpa using hr).single
    have hargs:args.map a.eval=#[x]:=by apply Array.toList_inj.1;simpa using hx
    obtain⟨r',v',h',G',w',q1,q2,⟨rfl,q3⟩,q4,q5⟩:=VS (ty:=ty) s ht0 ht hi hz hx2 (rv G z hzo) k2.out
    simp only[execOp,resolve,Sem.run_bind,Sem.run_pure,Result.andThen_ok,invoke,builtin,hargs,q1]
    exact⟨_,h',G',q2,q3,q4,q5⟩
   ·exact k2.elim
  ·exact k.elim
 case indexAddr t x i=>
  cases x<;>simp only at k<;>try exact k.elim
  split at k
  ·rename_i cs hg
   obtain⟨iv,h1,k⟩:=aH k
   have hx:=Uk s hg a
   unfold eI at k
   split at k
   ·split at k
    ·exact be s (zR ‹_› ‹_› hx (aQ r h1) k.out)
    ·exact k.elim
   ·split at k
    ·exact be s (x6 ‹_› ‹_› hx (aQ r h1) k.out)
    ·exact k.elim
   ·exact k.elim
  ·exact k.elim
 case load t x=>
  cases x<;>simp only at k<;>try exact k.elim
  split at k
  ·rename_i cs hg
   have hx:=Uk s hg a
   unfold lu at k
   split at k
   ·split at k
    ·exact be s (Dn s ‹_› ‹_› ‹_› hx k.out)
    ·rename_i hd;exact be s (C2 s ‹_› (by simpa using hd) hx k.out)
   ·exact k.elim
  ·exact k.elim
theorem Ve {env:Env}{h:ae}{o:Oper}{K K':QT}(hk:∀ v h,K v h→K' v h) (k:wV P env h o K):wV P env h o K':=by
 obtain⟨dst,op,ty,pos,after,guard⟩:=o
 cases op<;>simp only[wV]at k ⊢<;>try exact k.elim
 case call c=>
  split at k
  ·refine fm (fun _ k=>?_) _ k
   split at k
   ·exact⟨Dw (fun r k=>hk r h k) k.out⟩
   ·exact k.elim
  ·refine fm (fun _ k=>KR (fun z i k=>?_) k) _ k
   split at k
   ·exact⟨RR hk k.out⟩
   ·exact k.elim
  ·refine fm (fun _ k=>KR (fun z i k=>?_) k) _ k
   split at k
   ·exact⟨Oz (fun h k=>hk _ h k) k.out⟩
   ·exact k.elim
  ·exact k.elim
 case indexAddr t x i=>
  cases x<;>simp only at k ⊢<;>try exact k.elim
  split at k
  ·refine bm (fun _ k=>?_) _ k
   unfold eI at *
   (repeat' split at k)<;>first
    | exact k.elim
    | exact iT (fun r k=>hk r h k) _ _ _ k
    | exact fg (fun r k=>hk r h k) _ _ _ _ k
  ·exact k.elim
 case load t x=>
  cases x<;>simp only at k ⊢<;>try exact k.elim
  split at k
  ·unfold lu at *
   split at k
   ·split at k
    ·rename_i hd;rw[if_pos hd];exact ik (fun r k=>hk r h k) _ _ _ k
    ·rename_i hd;rw[if_neg hd];exact ig (fun r k=>hk r h k) _ _ k
   ·exact k.elim
  ·exact k.elim
theorem Zb (s:Sim G h w) {env:Env}{a:Act}(r:EnvRep G env a.tmps) {o:Oper}{K:QT}(k:aop P env h o K):UpV P (N0 G h w K) ((execOp a.eval o).run P w):=by
 unfold aop at k
 split at k
 ·exact aam s r k
 ·exact aaJ s r k
theorem lq {env:Env}{h:ae}{o:Oper}{K K':QT}(hk:∀ v h,K v h→K' v h) (k:aop P env h o K):aop P env h o K':=by
 unfold aop at *
 split at k
 ·rename_i hn;rw[if_pos hn];exact Ve hk k
 ·rename_i hn;rw[if_neg hn];exact WZ hk k
end
end
section
variable [Tabs]
section
variable {P:Program}{G:Gh}{h:ae}{w:World}{n:Nat}
def putD (env:Env) (d:Option Tmp) (v:AV):Env:=match d with|some d=>(d,v)::env|none=>env
def fM (n:Nat) (d:Option Tmp):Bool:=match d with|some d=>decide (d<n)|none=>true
theorem EnvRep.putD {env:Env}{a:Act}(r:EnvRep G env a.tmps) {d:Option Tmp}(hd:fM a.tmps.size d=true) {v:AV}{x:Value}(hx:Rep G v x):EnvRep G (putD env d v) (a.put d x).tmps:=by
 cases d with
 | none=>exact r
 | some d=>exact r.put (by simpa [fM] using hd) hx
theorem put_size (a:Act) (d:Option Tmp) (x:Value):(a.put d x).tmps.size=a.tmps.size:=by cases d<;>simp[Act.put]
theorem put_defers (a:Act) (d:Option Tmp) (x:Value):(a.put d x).defers=a.defers:=by cases d<;>simp[Act.put]
def qH (P:Program) (n:Nat) (env:Env) (h:ae) (o:Oper) (K:Env→ae→Prop):Prop:=
 if fM n o.dst=true then aop P env h o fun v h'=>K (putD env o.dst v) h' else False
def ifT (v:AV) (X Y Z:Prop):Prop:=match v with|.tup []=>Z|_=>ifB v X Y
def ifG (g:Bool) (v:AV) (X Y Z:Prop):Prop:=match g with|true=>ifT v X Y Z|false=>ifB v X Y
def Wq (ops:Array Oper) (j:Nat):Bool:=match ops[j]? with|some o=>o.guard.isSome|none=>false
omit [Tabs] in
theorem La {v:AV}{X Y:Prop}(k:ifB v X Y):(v=B true∧X)∨(v=B false∧Y):=by
 unfold ifB at k;split at k
 ·exact .inl ⟨rfl,k⟩
 ·exact .inr ⟨rfl,k⟩
 ·exact k.elim
omit [Tabs] in
theorem KZ {g:Bool}{v:AV}{X Y Z:Prop}(k:ifG g v X Y Z):(v=B true∧X)∨(v=B false∧Y)∨(v=.tup []∧Z):=by
 unfold ifG at k;split at k
 ·unfold ifT at k;split at k
  ·exact .inr (.inr ⟨rfl,k⟩)
  ·exact (La k).elim .inl fun h=>.inr (.inl h)
 ·exact (La k).elim .inl fun h=>.inr (.inl h)
theorem QA {g:Bool}{v:AV}{X Y Z X' Y' Z':Prop}(hx:X→X') (hy:Y→Y') (hz:Z→Z') (k:ifG g v X Y Z):ifG g v X' Y' Z':=by
 unfold ifG at *
 split at k
 ·unfold ifT at *;split at k
  ·exact hz k
  ·exact CI hx hy k
 ·exact CI hx hy k
omit [Tabs] in
theorem TB {g:Bool}{X Y Z:Prop}(k:X):ifG g (B true) X Y Z:=by cases g<;>exact k
omit [Tabs] in
theorem TV {g:Bool}{X Y Z:Prop}(k:Y):ifG g (B false) X Y Z:=by cases g<;>exact k
def jz (P:Program) (n:Nat) (ops:Array Oper):List Nat→Env→ae→(Env→ae→Prop)→Prop
 | [],env,h,K=>K env h
 | i::rest,env,h,K=>match ops[i]? with
   | none=>False
   | some o=>match o.guard with
     | none=>qH P n env h o fun env' h'=>jz P n ops rest env' h' K
     | some (j,want)=>match (ops[j]?).bind (·.dst) with
       | none=>False
       | some s=>bV (get env s) fun v=>
         ifG (Wq ops j) v
          (if want=true then qH P n ((s,B true)::env) h o fun env' h'=>jz P n ops rest env' h' K
           else if fM n o.dst=true then jz P n ops rest (putD ((s,B true)::env) o.dst (.tup [])) h K else False)
          (if want=true then (if fM n o.dst=true then jz P n ops rest (putD ((s,B false)::env) o.dst (.tup [])) h K else False)
           else qH P n ((s,B false)::env) h o fun env' h'=>jz P n ops rest env' h' K)
          (if fM n o.dst=true then jz P n ops rest (putD ((s,.tup [])::env) o.dst (.tup [])) h K else False)
def ME (G:Gh) (h:ae) (w:World) (n:Nat) (D:List Deferred) (K:Env→ae→Prop) (a:Act) (w':World):Prop:=
 ∃ env' h' G',K env' h'∧Sim G' h' w'∧Evo G h w G' h' w'∧EnvRep G' env' a.tmps∧a.tmps.size=n∧a.defers=D
theorem Ob {o:Oper}{env:Env}{K:Env→ae→Prop}{a:Act}{Q:Exit→Act→World→Prop}{next:Act→World→Prop}(s:Sim G h w) (hn:a.tmps.size=n) (r:EnvRep G env a.tmps) (k:qH P n env h o K)
  (hnext:∀ a' w',ME G h w n a.defers K a' w'→next a' w'):o.wp P a w next Q:=by
 unfold qH at k
 split at k
 ·rename_i hd
  unfold Oper.wp
  refine Ei ?_
  have:=Zb s r k
  unfold UpV at this ⊢
  have conv:∀ v w',N0 G h w (fun v h'=>K (putD env o.dst v) h') v w'→next (a.put o.dst v) w':=fun v w' ⟨rr,h',G',q1,q2,q3,q4⟩=>by
   refine hnext _ _ ⟨_,h',G',q2,q3,q4,(r.mono q4.le).putD (by rw[hn];exact hd) q1,by rw[put_size,hn],put_defers _ _ _⟩
  split at this
  ·exact conv _ _ this
  ·exact conv _ _ this
  ·exact Calls.mono this fun e w'' ⟨v,he,hv⟩=>⟨v,he,conv _ _ hv⟩
  ·exact this.elim
 ·exact k.elim
theorem wY {env:Env}{tmps:Array Value}(r:EnvRep G env tmps) {s:Nat}{v:AV}(h:get env s=some v):EnvRep G ((s,v)::env) tmps:=fun k a e=>by
 simp only[get]at e
 split at e
 ·rename_i hk;subst hk;cases e;exact r _ _ h
 ·exact r k a e
theorem uR {ops:Array Oper}{o:Oper}{j:Nat}{want b:Bool}{s:Nat}{env:Env}{a:Act}(hg:o.guard=some (j,want)) (hs:(ops[j]?).bind (·.dst)=some s) (r:EnvRep G env a.tmps) (hv:get env s=some (B b)):
  Region.wanted o (yielded ops a.tmps)=(b==want):=by
 obtain⟨x,h1,h2⟩:=r s _ hv
 simp only[Rep]at h2
 obtain⟨rfl,_⟩:=h2
 have hy:yielded ops a.tmps j=some b:=by
  unfold yielded
  simp only[hs]
  simp[Array.getD_eq_getD_getElem?,h1]
 simp only[Region.wanted,hg,hy]
 cases b<;>cases want<;>rfl
theorem BZ {ops:Array Oper}{o:Oper}{j:Nat}{want:Bool}{s:Nat}{env:Env}{a:Act}(hg:o.guard=some (j,want)) (hs:(ops[j]?).bind (·.dst)=some s) (r:EnvRep G env a.tmps) (hv:get env s=some (.tup [])):
  Region.wanted o (yielded ops a.tmps)=false:=by
 obtain⟨x,h1,h2⟩:=r s _ hv
 simp only[Rep]at h2
 obtain⟨vs,rfl,h3⟩:=h2
 have hy:yielded ops a.tmps j=none:=by
  unfold yielded
  simp only[hs]
  simp[Array.getD_eq_getD_getElem?,h1]
 simp only[Region.wanted,hg,hy]
 rfl
theorem Gv (ops:Array Oper) (Q:Exit→Act→World→Prop):∀ (l:List Nat) (env:Env) (h:ae) (G:Gh) (w:World) (a:Act) (K:Env→ae→Prop),Sim G h w→a.tmps.size=n→EnvRep G env a.tmps→jz P n ops l env h K→
  (∀ a' w',ME G h w n a.defers K a' w'→Q .normal a' w')→wpOps P ops Q l a w
 | [],env,h,G,w,a,K,s,hn,r,k,hq=>hq a w ⟨env,h,G,k,s,Evo.refl _ _ _,r,hn,rfl⟩
 | i::rest,env,h,G,w,a,K,s,hn,r,k,hq=>by
   unfold jz at k
   unfold wpOps
   split at k
   ·exact k.elim
   ·rename_i o ho
    simp only[ho]
    have go:∀ {env:Env},EnvRep G env a.tmps→qH P n env h o (fun env' h'=>jz P n ops rest env' h' K)→o.wp P a w (wpOps P ops Q rest) Q:=fun r k=>
     Ob s hn r k fun a' w' ⟨env',h',G',q1,q2,q3,q4,q5,q6⟩=>
      Gv ops Q rest env' h' G' w' a' K q2 q5 q4 q1 fun a2 w2 ⟨env2,h2,G2,p1,p2,p3,p4,p5,p6⟩=>hq a2 w2 ⟨env2,h2,G2,p1,p2,q3.trans p3,p4,p5,p6.trans q6⟩
    have skip:∀ {env:Env},EnvRep G env a.tmps→fM n o.dst=true→jz P n ops rest (putD env o.dst (.tup [])) h K→wpOps P ops Q rest (a.put o.dst undef) w:=fun r hd k=>
     Gv ops Q rest _ h G w _ K s (by rw[put_size,hn]) (r.putD (by rw[hn];exact hd) (by simp[Rep,RepL,undef])) k fun a2 w2 p=>hq a2 w2 (by rwa [put_defers]at p)
    split at k
    ·rename_i hg
     have:Region.wanted o (yielded ops a.tmps)=true:=by simp[Region.wanted,hg]
     rw[if_pos this]
     exact .inl (go r k)
    ·rename_i j want hg
     split at k
     ·exact k.elim
     ·rename_i sl hsl
      obtain⟨v,hv,k⟩:=aH k
      replace k:=KZ k
      rcases k with ⟨rfl,k⟩|⟨rfl,k⟩|⟨rfl,k⟩
      ·have r':=wY r hv
       have hw:=uR hg hsl r hv
       rw[hw]
       cases want
       ·simp only[Bool.false_eq_true,if_false]at k
        rw[if_neg (by simp)]
        split at k
        ·exact skip r' ‹_› k
        ·exact k.elim
       ·simp only[if_true]at k
        rw[if_pos (by simp)]
        exact .inl (go r' k)
      ·have r':=wY r hv
       have hw:=uR hg hsl r hv
       rw[hw]
       cases want
       ·simp only[Bool.false_eq_true,if_false]at k
        rw[if_pos (by simp)]
        exact .inl (go r' k)
       ·simp only[if_true]at k
        rw[if_neg (by simp)]
        split at k
        ·exact skip r' ‹_› k
        ·exact k.elim
      ·have r':=wY r hv
       rw[BZ hg hsl r hv]
       rw[if_neg (by simp)]
       split at k
       ·exact skip r' ‹_› k
       ·exact k.elim
theorem IJ {id:Nat}{ops:Array Oper}{env:Env}{K:Exit→Env→ae→Prop}(k:jz P n ops (List.range ops.size) env h fun env' h'=>K .normal env' h'):AWp P n (.region id ops false) env h K:=
 fun G w a s hn r=>wp_region (Gv ops _ _ env h G w a _ s hn r k fun a' w' p=>p)
theorem Of {c:Operand}{x y:Code}{env:Env}{K:Exit→Env→ae→Prop}(k:bV (opv env c) fun v=>ifB v (AWp P n x env h K) (AWp P n y env h K)):AWp P n (.cond c x y) env h K:=by
 intro G w a s hn r
 obtain⟨v,hv,k⟩:=aH k
 have hr:=aQ r hv
 unfold ifB at k
 split at k
 ·simp only[Rep]at hr
  exact wp_cond_true hr.1 (k G w a s hn r)
 ·simp only[Rep]at hr
  exact wp_cond_false hr.1 (k G w a s hn r)
 ·exact k.elim
def dx:Code→List Nat
 | .region _ ops _=>ops.toList.filterMap (·.dst)
 | .seq a b=>dx a++dx b
 | .cond _ a b=>dx a++dx b
 | .block _ b=>dx b
 | .loop b=>dx b
 | .scope b=>dx b
 | .rangeFunc _ _ a b=>dx a++dx b
 | _=>[]
def Cj (o:Oper):List Nat:=o.op.operands.toList.filterMap fun|.tmp t=>some t|_=>none
def abI:List Nat→List Nat
 | []=>[]
 | x::xs=>if xs.contains x then abI xs else x::abI xs
def Fo (env:Env):List Nat→Option (List AV)
 | []=>some []
 | s::l=>match get env s,Fo env l with
   | some v,some vs=>some (v::vs)
   | _,_=>none
def jg (ws:List Nat) (env:Env):Env:=env.filter fun p=>!ws.contains p.1
theorem A0 {ws:List Nat}:∀ {env:Env}{s:Nat}{a:AV},get (jg ws env) s=some a→get env s=some a
 | [],s,a,e=>by simp[jg,get]at e
 | (k,v)::env,s,a,e=>by
   simp only[jg,List.filter_cons]at e
   split at e
   ·simp only[get]at e ⊢
    split
    ·rename_i hk;rw[if_pos hk]at e;exact e
    ·rename_i hk;rw[if_neg hk]at e;exact A0 e
   ·rename_i hc
    have ih:=A0 (ws:=ws) (env:=env) (s:=s) (a:=a) e
    simp only[get]
    split
    ·rename_i hk
     subst hk
     exfalso
     have:∀ env:Env,get (jg ws env) k=none:=fun env=>by
      induction env with
      | nil=>simp[jg,get]
      | cons p env ih=>
        simp only[jg,List.filter_cons]
        split
        ·rename_i hp
         simp only[get]
         rw[if_neg (fun e=>by subst e;exact hc hp)]
         exact ih
        ·exact ih
     rw[show env.filter _=jg ws env from rfl,this]at e
     cases e
    ·exact ih
def aq (vs:List AV) (i:Nat):AV:=(vs[i]?).getD default
def mZ (vs:List AV):Nat→List Nat→Env
 | _,[]=>[]
 | i,k::ks=>(k,aq vs i)::mZ vs (i+1) ks
structure bW (vs:List AV) (h:ae) (B:List AV→ae→(NT)→Prop):Prop where
 mk::(out:∃ J:Nat→NT,(∃ k,J k vs h)∧∀ k vs h,J k vs h→B vs h fun vs' h'=>∃ m,m<k∧J m vs' h')
def adk (ws ks:List Nat) (body:Env→ae→(Exit→Env→ae→Prop)→Prop) (env:Env) (h:ae) (K:Exit→Env→ae→Prop):Prop:=
 d7 (Fo env ks) fun vs0=>bW vs0 h fun vs h next=>body (mZ vs 0 ks++jg ws env) h fun e env' h'=>match e with
  | .normal=>d7 (Fo env' ks) fun vs'=>next vs' h'
  | e=>K e env' h'
abbrev Ns:=List (Nat×List Nat×List Nat)
def rK:Code→Nat
 | .region id _ _=>id+1
 | .seq a b=>match rK a with|0=>rK b|k=>k
 | .cond _ a b=>match rK a with|0=>rK b|k=>k
 | .block _ b=>rK b
 | .loop b=>rK b
 | .scope b=>rK b
 | _=>0
def Sr:Ns→Nat→Option (List Nat×List Nat)
 | [],_=>none
 | (k,p)::r,i=>if k=i then some p else Sr r i
def Rg (c:Code) (ws ks:List Nat):Bool:=((dx c).all ws.contains&&ws.all (dx c).contains)&&ks.all ws.contains
theorem Ej {c:Code}{ws ks:List Nat}(h:Rg c ws ks=true):(∀ s,s∈dx c→s∈ws)∧(∀ s,s∈ws→s∈dx c)∧∀ s,s∈ks→s∈ws:=by
 simp only[Rg,Bool.and_eq_true,List.all_eq_true]at h
 exact⟨fun s hs=>by simpa using h.1.1 s hs,fun s hs=>by simpa using h.1.2 s hs,fun s hs=>by simpa using h.2 s hs⟩
end
end
section
variable [Tabs]
section
variable {P:Program}
theorem Zr {K:AV→Prop}(op:BinOp) (x y:AV) (k:FL op x y K):∃ v,K v∧FL op x y fun r=>r=v:=by
 unfold FL at *
 (repeat' split at k)<;>first|exact k.elim|exact⟨_,k,rfl⟩|exact⟨_,k.2,k.1,rfl⟩|exact⟨_,k.2.2,k.1,k.2.1,rfl⟩|(refine⟨_,k,?_⟩;simp_all;done)|(refine⟨_,k.2,?_⟩;simp_all;done)|(refine⟨_,k.2.2,?_⟩;simp_all;done)
theorem Wu {K:AV→Prop}(op:BinOp) (x y:AV) (k:xK op x y K):∃ v,K v∧xK op x y fun r=>r=v:=by
 unfold xK at *
 (repeat' split at k)<;>first|exact k.elim|exact⟨_,k,rfl⟩|exact⟨_,k.2,k.1,rfl⟩|exact⟨_,k.2.2,k.1,k.2.1,rfl⟩|(refine⟨_,k,?_⟩;simp_all;done)|(refine⟨_,k.2,?_⟩;simp_all;done)|(refine⟨_,k.2.2,?_⟩;simp_all;done)
theorem U7 {K:AV→Prop}(op:BinOp) (x y:AV) (k:xX op x y K):∃ v,K v∧xX op x y fun r=>r=v:=by
 unfold xX at *
 (repeat' split at k)<;>first|exact k.elim|exact⟨_,k,rfl⟩|exact⟨_,k.2,k.1,rfl⟩|exact⟨_,k.2.2,k.1,k.2.1,rfl⟩|(refine⟨_,k,?_⟩;simp_all;done)|(refine⟨_,k.2,?_⟩;simp_all;done)|(refine⟨_,k.2.2,?_⟩;simp_all;done)
theorem abl {K:AV→Prop}(op:UnOp) (x:AV) (k:pUn op x K):∃ v,K v∧pUn op x fun r=>r=v:=by
 unfold pUn at *
 (repeat' split at k)<;>first|exact k.elim|exact⟨_,k,rfl⟩|exact⟨_,k.2,k.1,rfl⟩|exact⟨_,k.2.2,k.1,k.2.1,rfl⟩|(refine⟨_,k,?_⟩;simp_all;done)|(refine⟨_,k.2,?_⟩;simp_all;done)|(refine⟨_,k.2.2,?_⟩;simp_all;done)
theorem N7 {K:AV→Prop}(d:IntKind) (x:AV) (k:m9 d x K):∃ v,K v∧m9 d x fun r=>r=v:=by
 unfold m9 at *
 (repeat' split at k)<;>first|exact k.elim|exact⟨_,k,rfl⟩|exact⟨_,k.2,k.1,rfl⟩|exact⟨_,k.2.2,k.1,k.2.1,rfl⟩|(refine⟨_,k,?_⟩;simp_all;done)|(refine⟨_,k.2,?_⟩;simp_all;done)|(refine⟨_,k.2.2,?_⟩;simp_all;done)
theorem OB {K:AV→Prop}(d:FloatKind) (x:AV) (k:mL d x K):∃ v,K v∧mL d x fun r=>r=v:=by
 unfold mL at *
 (repeat' split at k)<;>first|exact k.elim|exact⟨_,k,rfl⟩|exact⟨_,k.2,k.1,rfl⟩|exact⟨_,k.2.2,k.1,k.2.1,rfl⟩|(refine⟨_,k,?_⟩;simp_all;done)|(refine⟨_,k.2,?_⟩;simp_all;done)|(refine⟨_,k.2.2,?_⟩;simp_all;done)
theorem P3 {K:AV→Prop}(x:AV) (k:mz x K):∃ v,K v∧mz x fun r=>r=v:=by
 unfold mz at *
 (repeat' split at k)<;>first|exact k.elim|exact⟨_,k,rfl⟩|exact⟨_,k.2,k.1,rfl⟩|exact⟨_,k.2.2,k.1,k.2.1,rfl⟩|(refine⟨_,k,?_⟩;simp_all;done)|(refine⟨_,k.2,?_⟩;simp_all;done)|(refine⟨_,k.2.2,?_⟩;simp_all;done)
theorem XE {K:AV→Prop}(x:AV) (k:Jn x K):∃ v,K v∧Jn x fun r=>r=v:=by
 unfold Jn at *
 (repeat' split at k)<;>first|exact k.elim|exact⟨_,k,rfl⟩|exact⟨_,k.2,k.1,rfl⟩|exact⟨_,k.2.2,k.1,k.2.1,rfl⟩|(refine⟨_,k,?_⟩;simp_all;done)|(refine⟨_,k.2,?_⟩;simp_all;done)|(refine⟨_,k.2.2,?_⟩;simp_all;done)
theorem Hg {K:AV→Prop}(n:Nat) (x:AV) (k:fu n x K):∃ v,K v∧fu n x fun r=>r=v:=by
 unfold fu at *
 (repeat' split at k)<;>first|exact k.elim|exact⟨_,k,rfl⟩|exact⟨_,k.2,k.1,rfl⟩|exact⟨_,k.2.2,k.1,k.2.1,rfl⟩|(refine⟨_,k,?_⟩;simp_all;done)|(refine⟨_,k.2,?_⟩;simp_all;done)|(refine⟨_,k.2.2,?_⟩;simp_all;done)
theorem S1 {K:AV→Prop}(n:Nat) (x:AV) (h:ae) (k:nK n x h K):∃ v,K v∧nK n x h fun r=>r=v:=by
 unfold nK at *
 (repeat' split at k)<;>first|exact k.elim|exact⟨_,k,rfl⟩|exact⟨_,k.2,k.1,rfl⟩|exact⟨_,k.2.2,k.1,k.2.1,rfl⟩|(refine⟨_,k,?_⟩;simp_all;done)|(refine⟨_,k.2,?_⟩;simp_all;done)|(refine⟨_,k.2.2,?_⟩;simp_all;done)
theorem SN {K:AV→Prop}(x:AV) (h:ae) (k:mU x h K):∃ v,K v∧mU x h fun r=>r=v:=by
 unfold mU at *
 (repeat' split at k)<;>first|exact k.elim|exact⟨_,k,rfl⟩|exact⟨_,k.2,k.1,rfl⟩|exact⟨_,k.2.2,k.1,k.2.1,rfl⟩|(refine⟨_,k,?_⟩;simp_all;done)|(refine⟨_,k.2,?_⟩;simp_all;done)|(refine⟨_,k.2.2,?_⟩;simp_all;done)
theorem Tk {K:AV→Prop}(o n:Nat) (x:AV) (k:qM o n x K):∃ v,K v∧qM o n x fun r=>r=v:=by
 unfold qM at *
 (repeat' split at k)<;>first|exact k.elim|exact⟨_,k,rfl⟩|exact⟨_,k.2,k.1,rfl⟩|exact⟨_,k.2.2,k.1,k.2.1,rfl⟩|(refine⟨_,k,?_⟩;simp_all;done)|(refine⟨_,k.2,?_⟩;simp_all;done)|(refine⟨_,k.2.2,?_⟩;simp_all;done)
theorem Ri {K:AV→Prop}(o:Nat) (x:AV) (k:qE o x K):∃ v,K v∧qE o x fun r=>r=v:=by
 unfold qE at *
 (repeat' split at k)<;>first|exact k.elim|exact⟨_,k,rfl⟩|exact⟨_,k.2,k.1,rfl⟩|exact⟨_,k.2.2,k.1,k.2.1,rfl⟩|(refine⟨_,k,?_⟩;simp_all;done)|(refine⟨_,k.2,?_⟩;simp_all;done)|(refine⟨_,k.2.2,?_⟩;simp_all;done)
theorem Py {K:AV→Prop}(x i:AV) (k:lC x i K):∃ v,K v∧lC x i fun r=>r=v:=by
 unfold lC at *
 (repeat' split at k)<;>first|exact k.elim|exact⟨_,k,rfl⟩|exact⟨_,k.2,k.1,rfl⟩|exact⟨_,k.2.2,k.1,k.2.1,rfl⟩|(refine⟨_,k,?_⟩;simp_all;done)|(refine⟨_,k.2,?_⟩;simp_all;done)|(refine⟨_,k.2.2,?_⟩;simp_all;done)
theorem Gm {K:AV→Prop}(n:Nat) (x i:AV) (k:dw n x i K):∃ v,K v∧dw n x i fun r=>r=v:=by
 unfold dw at *
 (repeat' split at k)<;>first|exact k.elim|exact⟨_,k,rfl⟩|exact⟨_,k.2,k.1,rfl⟩|exact⟨_,k.2.2,k.1,k.2.1,rfl⟩|(refine⟨_,k,?_⟩;simp_all;done)|(refine⟨_,k.2,?_⟩;simp_all;done)|(refine⟨_,k.2.2,?_⟩;simp_all;done)
theorem FF {K:AV→Prop}(m n:Nat) (x i:AV) (k:cU m n x i K):∃ v,K v∧cU m n x i fun r=>r=v:=by
 unfold cU at *
 (repeat' split at k)<;>first|exact k.elim|exact⟨_,k,rfl⟩|exact⟨_,k.2,k.1,rfl⟩|exact⟨_,k.2.2,k.1,k.2.1,rfl⟩|(refine⟨_,k,?_⟩;simp_all;done)|(refine⟨_,k.2,?_⟩;simp_all;done)|(refine⟨_,k.2.2,?_⟩;simp_all;done)
theorem QF {K:AV→Prop}(x:AV) (a b:Option AV) (k:jq x a b K):∃ v,K v∧jq x a b fun r=>r=v:=by
 unfold jq at *
 (repeat' split at k)<;>first|exact k.elim|exact⟨_,k,rfl⟩|exact⟨_,k.2,k.1,rfl⟩|exact⟨_,k.2.2,k.1,k.2.1,rfl⟩|(refine⟨_,k,?_⟩;simp_all;done)|(refine⟨_,k.2,?_⟩;simp_all;done)|(refine⟨_,k.2.2,?_⟩;simp_all;done)
theorem Q5 {K:AV→Prop}(n:Nat) (x:AV) (a b:Option AV) (k:iK n x a b K):∃ v,K v∧iK n x a b fun r=>r=v:=by
 unfold iK at *
 (repeat' split at k)<;>first|exact k.elim|exact⟨_,k,rfl⟩|exact⟨_,k.2,k.1,rfl⟩|exact⟨_,k.2.2,k.1,k.2.1,rfl⟩|(refine⟨_,k,?_⟩;simp_all;done)|(refine⟨_,k.2,?_⟩;simp_all;done)|(refine⟨_,k.2.2,?_⟩;simp_all;done)
theorem Ql {K:AV→Prop}(x:AV) (k:m5 x K):∃ v,K v∧m5 x fun r=>r=v:=by
 unfold m5 at *
 (repeat' split at k)<;>first|exact k.elim|exact⟨_,k,rfl⟩|exact⟨_,k.2,k.1,rfl⟩|exact⟨_,k.2.2,k.1,k.2.1,rfl⟩|(refine⟨_,k,?_⟩;simp_all;done)|(refine⟨_,k.2,?_⟩;simp_all;done)|(refine⟨_,k.2.2,?_⟩;simp_all;done)
theorem UO {K:AV→Prop}(x:AV) (k:zJ x K):∃ v,K v∧zJ x fun r=>r=v:=by
 unfold zJ at *
 (repeat' split at k)<;>first|exact k.elim|exact⟨_,k,rfl⟩|exact⟨_,k.2,k.1,rfl⟩|exact⟨_,k.2.2,k.1,k.2.1,rfl⟩|(refine⟨_,k,?_⟩;simp_all;done)|(refine⟨_,k.2,?_⟩;simp_all;done)|(refine⟨_,k.2.2,?_⟩;simp_all;done)
theorem UJ {K:AV→Prop}(x:AV) (k:zN x K):∃ v,K v∧zN x fun r=>r=v:=by
 unfold zN at *
 (repeat' split at k)<;>first|exact k.elim|exact⟨_,k,rfl⟩|exact⟨_,k.2,k.1,rfl⟩|exact⟨_,k.2.2,k.1,k.2.1,rfl⟩|(refine⟨_,k,?_⟩;simp_all;done)|(refine⟨_,k.2,?_⟩;simp_all;done)|(refine⟨_,k.2.2,?_⟩;simp_all;done)
theorem U5 {K:AV→Prop}(x:AV) (h:ae) (k:yn x h K):∃ v,K v∧yn x h fun r=>r=v:=by
 unfold yn at *
 (repeat' split at k)<;>first|exact k.elim|exact⟨_,k,rfl⟩|exact⟨_,k.2,k.1,rfl⟩|exact⟨_,k.2.2,k.1,k.2.1,rfl⟩|(refine⟨_,k,?_⟩;simp_all;done)|(refine⟨_,k.2,?_⟩;simp_all;done)|(refine⟨_,k.2.2,?_⟩;simp_all;done)
theorem L9 {K:AV→Prop}(i:Nat) (x:AV) (k:iU i x K):∃ v,K v∧iU i x fun r=>r=v:=by
 unfold iU at *
 (repeat' split at k)<;>first|exact k.elim|exact⟨_,k,rfl⟩|exact⟨_,k.2,k.1,rfl⟩|exact⟨_,k.2.2,k.1,k.2.1,rfl⟩|(refine⟨_,k,?_⟩;simp_all;done)|(refine⟨_,k.2,?_⟩;simp_all;done)|(refine⟨_,k.2.2,?_⟩;simp_all;done)
theorem ZX {K:AV→Prop}(x y:AV) (k:FJ x y K):∃ v,K v∧FJ x y fun r=>r=v:=by
 unfold FJ at *
 split at k
 ·exact⟨_,k,rfl⟩
 ·exact k.elim
theorem ZZ {K:AV→Prop}(x y:AV) (k:FK x y K):∃ v,K v∧FK x y fun r=>r=v:=by
 unfold FK at *
 split at k
 ·exact⟨_,k,rfl⟩
 ·exact k.elim
theorem Ti {K:AV→Prop}(z:List AV) (ps:List (Nat×Nat×AV)) (k:pm z ps K):∃ v,K v∧pm z ps fun r=>r=v:=by
 unfold pm at *
 (repeat' split at k)<;>first|exact k.elim|exact⟨_,k,rfl⟩|exact⟨_,k.2,k.1,rfl⟩|exact⟨_,k.2.2,k.1,k.2.1,rfl⟩|(refine⟨_,k,?_⟩;simp_all;done)|(refine⟨_,k.2,?_⟩;simp_all;done)|(refine⟨_,k.2.2,?_⟩;simp_all;done)
theorem Tg {K:AV→Prop}(t:TypeId) (x:AV) (k:DB t x K):∃ v,K v∧DB t x fun r=>r=v:=⟨_,k,rfl⟩
theorem Fq {K:AV→Prop}(n m:Nat) (vs:List AV) (k:ii n m vs K):∃ v,K v∧ii n m vs fun r=>r=v:=⟨_,k.2,k.1,rfl⟩
theorem YG {K:AV→Prop}(op:BinOp) (x y:AV) (k:ai op x y K):∃ v,K v∧ai op x y fun r=>r=v:=let ⟨v,h1,h2⟩:=Zr op x y k.out;⟨v,h1,⟨h2⟩⟩
theorem Wa {K:AV→Prop}(op:BinOp) (x y:AV) (k:Kd op x y K):∃ v,K v∧Kd op x y fun r=>r=v:=let ⟨v,h1,h2⟩:=Wu op x y k.out;⟨v,h1,⟨h2⟩⟩
theorem V5 {K:AV→Prop}(op:BinOp) (x y:AV) (k:Eo op x y K):∃ v,K v∧Eo op x y fun r=>r=v:=let ⟨v,h1,h2⟩:=U7 op x y k.out;⟨v,h1,⟨h2⟩⟩
theorem aai {K:AV→Prop}(op:UnOp) (x:AV) (k:qUn op x K):∃ v,K v∧qUn op x fun r=>r=v:=let ⟨v,h1,h2⟩:=abl op x k.out;⟨v,h1,⟨h2⟩⟩
theorem OC {K:AV→Prop}(d:IntKind) (x:AV) (k:cj d x K):∃ v,K v∧cj d x fun r=>r=v:=let ⟨v,h1,h2⟩:=N7 d x k.out;⟨v,h1,⟨h2⟩⟩
theorem Pv {K:AV→Prop}(d:FloatKind) (x:AV) (k:sb d x K):∃ v,K v∧sb d x fun r=>r=v:=let ⟨v,h1,h2⟩:=OB d x k.out;⟨v,h1,⟨h2⟩⟩
theorem Oe {K:AV→Prop}(x:AV) (k:yK x K):∃ v,K v∧yK x fun r=>r=v:=let ⟨v,h1,h2⟩:=P3 x k.out;⟨v,h1,⟨h2⟩⟩
theorem Yr {K:AV→Prop}(x:AV) (k:aE x K):∃ v,K v∧aE x fun r=>r=v:=let ⟨v,h1,h2⟩:=XE x k.out;⟨v,h1,⟨h2⟩⟩
theorem Hc {K:AV→Prop}(n:Nat) (x:AV) (k:ab n x K):∃ v,K v∧ab n x fun r=>r=v:=let ⟨v,h1,h2⟩:=Hg n x k.out;⟨v,h1,⟨h2⟩⟩
theorem Hh {K:AV→Prop}(n:Nat) (x:AV) (h:ae) (k:ap n x h K):∃ v,K v∧ap n x h fun r=>r=v:=let ⟨v,h1,h2⟩:=S1 n x h k.out;⟨v,h1,⟨h2⟩⟩
theorem Gu {K:AV→Prop}(x:AV) (h:ae) (k:af x h K):∃ v,K v∧af x h fun r=>r=v:=let ⟨v,h1,h2⟩:=SN x h k.out;⟨v,h1,⟨h2⟩⟩
theorem Sq {K:AV→Prop}(o n:Nat) (x:AV) (k:Dp o n x K):∃ v,K v∧Dp o n x fun r=>r=v:=let ⟨v,h1,h2⟩:=Tk o n x k.out;⟨v,h1,⟨h2⟩⟩
theorem RZ {K:AV→Prop}(o:Nat) (x:AV) (k:CU o x K):∃ v,K v∧CU o x fun r=>r=v:=let ⟨v,h1,h2⟩:=Ri o x k.out;⟨v,h1,⟨h2⟩⟩
theorem Oo {K:AV→Prop}(x i:AV) (k:bl x i K):∃ v,K v∧bl x i fun r=>r=v:=let ⟨v,h1,h2⟩:=Py x i k.out;⟨v,h1,⟨h2⟩⟩
theorem xD {K:AV→Prop}(n:Nat) (x i:AV) (k:am n x i K):∃ v,K v∧am n x i fun r=>r=v:=let ⟨v,h1,h2⟩:=Gm n x i k.out;⟨v,h1,⟨h2⟩⟩
theorem wm {K:AV→Prop}(m n:Nat) (x i:AV) (k:cf m n x i K):∃ v,K v∧cf m n x i fun r=>r=v:=let ⟨v,h1,h2⟩:=FF m n x i k.out;⟨v,h1,⟨h2⟩⟩
theorem P8 {K:AV→Prop}(x:AV) (a b:Option AV) (k:bn x a b K):∃ v,K v∧bn x a b fun r=>r=v:=let ⟨v,h1,h2⟩:=QF x a b k.out;⟨v,h1,⟨h2⟩⟩
theorem OR {K:AV→Prop}(n:Nat) (x:AV) (a b:Option AV) (k:lA n x a b K):∃ v,K v∧lA n x a b fun r=>r=v:=let ⟨v,h1,h2⟩:=Q5 n x a b k.out;⟨v,h1,⟨h2⟩⟩
theorem OQ {K:AV→Prop}(x:AV) (k:Bt x K):∃ v,K v∧Bt x fun r=>r=v:=let ⟨v,h1,h2⟩:=Ql x k.out;⟨v,h1,⟨h2⟩⟩
theorem Vo {K:AV→Prop}(x:AV) (k:bF x K):∃ v,K v∧bF x fun r=>r=v:=let ⟨v,h1,h2⟩:=UO x k.out;⟨v,h1,⟨h2⟩⟩
theorem UV {K:AV→Prop}(x:AV) (k:aV x K):∃ v,K v∧aV x fun r=>r=v:=let ⟨v,h1,h2⟩:=UJ x k.out;⟨v,h1,⟨h2⟩⟩
theorem UH {K:AV→Prop}(x:AV) (h:ae) (k:Co x h K):∃ v,K v∧Co x h fun r=>r=v:=let ⟨v,h1,h2⟩:=U5 x h k.out;⟨v,h1,⟨h2⟩⟩
theorem LY {K:AV→Prop}(i:Nat) (x:AV) (k:an i x K):∃ v,K v∧an i x fun r=>r=v:=let ⟨v,h1,h2⟩:=L9 i x k.out;⟨v,h1,⟨h2⟩⟩
theorem YC {K:AV→Prop}(x y:AV) (k:Du x y K):∃ v,K v∧Du x y fun r=>r=v:=let ⟨v,h1,h2⟩:=ZX x y k.out;⟨v,h1,⟨h2⟩⟩
theorem Xw {K:AV→Prop}(x y:AV) (k:Iv x y K):∃ v,K v∧Iv x y fun r=>r=v:=let ⟨v,h1,h2⟩:=ZZ x y k.out;⟨v,h1,⟨h2⟩⟩
theorem S8 {K:AV→Prop}(z:List AV) (ps:List (Nat×Nat×AV)) (k:ay z ps K):∃ v,K v∧ay z ps fun r=>r=v:=let ⟨v,h1,h2⟩:=Ti z ps k.out;⟨v,h1,⟨h2⟩⟩
theorem SJ {K:AV→Prop}(t:TypeId) (x:AV) (k:wU t x K):∃ v,K v∧wU t x fun r=>r=v:=let ⟨v,h1,h2⟩:=Tg t x k.out;⟨v,h1,⟨h2⟩⟩
theorem FA {K:AV→Prop}(n m:Nat) (vs:List AV) (k:ao n m vs K):∃ v,K v∧ao n m vs fun r=>r=v:=let ⟨v,h1,h2⟩:=Fq n m vs k.out;⟨v,h1,⟨h2⟩⟩
