import Derived.Test.YtbhphjpgjgigpaaGreatDoorAL7toAL8n
import Derived.Laws.IdiomStrings
import Derived.Laws.BytesArg
import Derived.Laws.MakeOwn
import Derived.Laws.StructEq
set_option linter.all false
set_option autoImplicit true
set_option relaxedAutoImplicit true
set_option maxRecDepth 100000
namespace Go.Proofs.YtbhphjpgjgigpaaGreatDoor.AL
section
variable [Tabs]
section
variable {P:Program}{G:Gh}{h:ae}{w:World}
def xP:List AV→Option (List UInt8)
 | []=>some []
 | .lit (.int .u8 n)::r=>match xP r with|some l=>some (UInt8.ofNat n.toNat::l)|none=>none
 | _=>none
theorem Dy:∀ {xs:List AV}{vs:List Value}{l:List UInt8},RepL G xs vs→xP xs=some l→∃ ns:List Int,vs=ns.map (Value.int .u8)∧l=ns.map fun n=>UInt8.ofNat n.toNat
 | [],vs,l,r,h=>by simp only[RepL]at r;simp only[xP,Option.some.injEq]at h;subst r;subst h;exact⟨[],rfl,rfl⟩
 | a::xs,vs,l,r,h=>by
   simp only[RepL]at r
   obtain⟨v,ws,rfl,h1,h2⟩:=r
   unfold xP at h
   split at h
   ·rename_i hn;cases hn
   ·rename_i n r' hn
    cases hn
    split at h
    ·rename_i l' hl
     cases h
     obtain⟨ns,rfl,rfl⟩:=Dy h2 hl
     simp only[Rep]at h1
     exact⟨n::ns,by simp[h1.1],by simp⟩
    ·cases h
   ·cases h
def yR:AV→Bool
 | .sl _ _ _ _=>true
 | .snap _ _=>true
 | .full _ _=>true
 | _=>false
def gg (x:AV) (h:ae) (K:AV→Prop):Prop:=
 if yR x=true then (match dz h 1 x with
  | some (_,xs)=>(match xP xs with|some l=>K (S ⟨l.toArray⟩)|none=>False)
  | none=>False) else False
theorem Uc {x:AV}{v:Value}(hx:Rep G x v) (hr:yR x=true):∃ a l c,v=.slice a l c:=by
 cases x<;>simp[yR]at hr<;>simp only[Rep]at hx
 ·obtain⟨b,o,c,ad,_,_,_,_,rfl⟩:=hx;exact⟨_,_,_,rfl⟩
 ·rcases hx with ⟨_,_,_,rfl⟩|⟨b,o,c,_,rfl,_⟩<;>exact⟨_,_,_,rfl⟩
 ·rcases hx with ⟨_,_,_,rfl⟩|⟨b,o,rfl,_⟩<;>exact⟨_,_,_,rfl⟩
theorem K0 (s:Sim G h w) {src dst e:TypeId}(hs:P.underlying src=some (.slice e)) (he:P.underlying e=some (.int .u8)) (hd:P.underlying dst=some .string) {x:AV}{v:Value}(hx:Rep G x v) {K:AV→Prop}(k:gg x h K):
  Yl P G w (convert src dst v) K:=by
 unfold gg at k
 split at k
 ·rename_i hr
  split at k
  ·rename_i m xs hxs
   split at k
   ·rename_i l hl
    obtain⟨vs,q1,q2,q3,q4⟩:=m7 (P:=P) s hx hxs
    obtain⟨ns,rfl,rfl⟩:=Dy q2 hl
    obtain⟨a,len,c,rfl⟩:=Uc hx hr
    refine⟨_,.string ⟨(ns.map fun n=>UInt8.ofNat n.toNat).toArray⟩,?_,by simp[Rep,Value.oneCell'],k⟩
    rw[run_convert_bytes_string w src dst e a len c hs he hd]
    have hlen:len=m:=by simpa [Builtin.lenOf] using q3
    subst hlen
    cases a with
    | none=>
      have:ns=[]:=by
       simp[Builtin.firstCells]at q4
       exact q4.symm ▸ rfl
      subst this
      simp[Conv.bytesToString];rfl
    | some a=>
      have hlc:(loadCells a len).run P w=.ok (ns.map (Value.int .u8)).toArray w:=by
       simpa [Builtin.firstCells] using q4
      rw[run_bytesToString w a len c ns hlc,foldl_push_bytes]
      congr 2
      apply ByteArray.ext
      simp[ByteArray.empty,ByteArray.emptyWithCapacity]
      rfl
   ·exact k.elim
  ·exact k.elim
 ·exact k.elim
def jA (x:AV) (h:ae) (K:QT):Prop:=
 match x with
 | .lit (.string s)=>K (.sl h.length 0 s.size 1) (h++[.cells (s.data.toList.map fun b=>.lit (.int .u8 b.toNat))])
 | _=>False
theorem J6 (s:Sim G h w) {src dst e:TypeId}(hs:P.underlying src=some .string) (hd:P.underlying dst=some (.slice e)) (he:P.underlying e=some (.int .u8)) {x:AV}{v:Value}(hx:Rep G x v) {K:QT}(k:jA x h K):
  Ye P G h w (convert src dst v) K:=by
 unfold jA at k
 split at k
 ·rename_i str
  simp only[Rep]at hx
  obtain⟨rfl,_⟩:=hx
  obtain⟨sd,evd⟩:=s.drawn (w.drawn+1)
  have hge:str.size≤grownCap w str.size 0 e:=by simp only[grownCap,Question.cut];omega
  have hrun:=run_bytes_of_string (P:=P) w src dst e str hs hd he
  generalize grownCap w str.size 0 e=c at hge hrun
  have hsz:(bytesRow str c).size=c:=by
   have:str.data.size=str.size:=rfl
   simp only[bytesRow,Array.size_append,Array.size_map,Array.size_replicate];omega
  generalize hC:bytesRow str c=C at hrun hsz
  have x:ObjAt (G.add h.length (w.drew.heap.size,0) c) (w.drew.alloc (.cells C e (C.size,C.size+1))) h.length (.cells (str.data.toList.map fun b=>.lit (.int .u8 b.toNat))):=by
   refine⟨w.heap.size,0,C,e,C.size,C.size+1,by simp[Gh.add],?_,by omega,?_,?_,?_⟩
   ·show (w.heap.push _)[w.heap.size]?=_
    simp
   ·simp only[Gh.add,if_true,List.length_map,Array.length_toList];exact hge
   ·simp only[Gh.add,if_true,hsz];omega
   ·intro j a ha
    rw[List.getElem?_map]at ha
    cases hj:str.data.toList[j]? with
    | none=>rw[hj]at ha;cases ha
    | some b=>
      rw[hj]at ha
      simp only[Option.map_some,Option.some.injEq]at ha
      subst ha
      have hlt:j<str.data.toList.length:=(List.getElem?_eq_some_iff.1 hj).1
      refine⟨.int .u8 b.toNat,?_,by simp[Rep,Value.oneCell']⟩
      rw[← hC,Nat.zero_add]
      unfold bytesRow
      rw[Array.getElem?_append_left (by simpa using hlt)]
      have:str.data[j]?=some b:=by simpa using hj
      simp[this]
  obtain⟨s',ev⟩:=nU sd (.cells C e (C.size,C.size+1)) _ c x
  refine⟨_,_,_,_,_,hrun,?_,k,s',evd.trans ev⟩
  simp only[Rep]
  exact⟨w.heap.size,0,c,0,by simp[Gh.add],by simp[Gh.add],hge,fun _=>rfl,rfl⟩
 ·exact k.elim
def gR (bytes:Nat) (z l c:AV) (h:ae) (K:QT):Prop:=
 match l,c with
 | .lit (.int _ l),.lit (.int _ c)=>(0≤l∧l≤c∧(bytes:Int)*c≤1099511627776∧c≤1099511627776)∧K (.sl h.length 0 l.toNat 1) (h++[.cells (List.replicate c.toNat z)])
 | _,_=>False
theorem HS (s:Sim G h w) {t e:TypeId}{i:TypeInfo}{z:Value}(ht:P.underlying t=some (.slice e)) (hi:P.info? e=some i) (hz:i.zero=some z) (h1:i.size=1) (hzo:z.oneCell'=true) {l c:AV}{lv cv:Value}(hl:Rep G l lv) (hc:Rep G c cv) {K:QT}
  (k:gR i.bytes (F9 z) l c h K):Ye P G h w (Instr.makeSlice t lv cv) K:=by
 unfold gR at k
 split at k
 ·rename_i kl l' kc c'
  obtain⟨⟨q1,q2,q3,q4⟩,k⟩:=k
  simp only[Rep]at hl hc
  obtain⟨rfl,_⟩:=hl
  obtain⟨rfl,_⟩:=hc
  have hrun:=run_make (P:=P) w t e i z ht hi hz kl kc l' c' q1 q2 (by omega) (by omega)
  rw[h1,Nat.mul_one]at hrun
  have hcells:∀ j,j<c'.toNat→(madeCells z.cells c'.toNat)[j]?=some z:=fun j hj=>by
   simp[madeCells,hj,uO hzo,Nat.mod_one]
  have x:ObjAt (G.add h.length (w.heap.size,0) c'.toNat) (w.alloc (.cells (madeCells z.cells c'.toNat) e)) h.length (.cells (List.replicate c'.toNat (F9 z))):=by
   refine⟨w.heap.size,0,madeCells z.cells c'.toNat,e,0,0,by simp[Gh.add],?_,by omega,?_,?_,?_⟩
   ·show (w.heap.push _)[w.heap.size]?=_
    simp
   ·simp[Gh.add]
   ·simp[Gh.add,size_madeCells]
   ·intro j a ha
    have hj:j<c'.toNat:=by have:=(List.getElem?_eq_some_iff.1 ha).1;simpa using this
    rw[List.getElem?_replicate,if_pos hj]at ha
    cases ha
    exact⟨z,by rw[Nat.zero_add];exact hcells j hj,Fq _ z hzo⟩
  obtain⟨s',ev⟩:=nU s (.cells (madeCells z.cells c'.toNat) e) _ c'.toNat x
  refine⟨_,_,_,_,_,hrun,?_,k,s',ev⟩
  simp only[Rep]
  exact⟨w.heap.size,0,c'.toNat,0,by simp[Gh.add],by simp[Gh.add],by omega,fun _=>rfl,rfl⟩
 ·exact k.elim
def me (op:BinOp) (x:AV) (K:AV→Prop):Prop:=
 match op,x with
 | .eql,.map _=>K (B false)
 | .neq,.map _=>K (B true)
 | .eql,.lit (.map none)=>K (B true)
 | .neq,.lit (.map none)=>K (B false)
 | _,_=>False
def lI (op:BinOp) (x:AV) (K:AV→Prop):Prop:=
 match op,x with
 | .eql,.iface _ _=>K (B false)
 | .neq,.iface _ _=>K (B true)
 | .eql,.lit .nilIface=>K (B true)
 | .neq,.lit .nilIface=>K (B false)
 | _,_=>False
def mj (op:BinOp) (x:AV) (K:AV→Prop):Prop:=
 match op,x with
 | .eql,.fn _ _ _=>K (B false)
 | .neq,.fn _ _ _=>K (B true)
 | .eql,.lit .nilFunc=>K (B true)
 | .neq,.lit .nilFunc=>K (B false)
 | _,_=>False
def rJ (op:BinOp) (b:Bool) (K:AV→Prop):Prop:=match op with|.eql=>K (B b)|.neq=>K (B !b)|_=>False
def nq (op:BinOp) (x:AV) (K:AV→Prop):Prop:=
 match x with
 | .sl _ _ _ _=>rJ op false K
 | .full n _=>if n=0 then rJ op true K∧rJ op false K else rJ op false K
 | .snap n _=>if n=0 then rJ op true K∧rJ op false K else rJ op false K
 | _=>False
theorem Zn (G:Gh) (b:Bool):Rep G (B b) (.bool b):=by simp[Rep,Value.oneCell']
theorem iK {t:TypeId}{x y:Value}{b:Bool}(h:∀ d,(Op.equalIn (d+1) t x y).run P w=.ok b w):(Op.equal t x y).run P w=.ok b w:=h 9999
theorem ip {op:BinOp}{t:TypeId}{xo:Operand}{c x:Value}{b:Bool}{K:AV→Prop}(hg:eqGuard op t xo (.const c) x c=pure ())
  (h1:binOp .eql t x c=(do pure (.bool (← Op.equal t x c)))) (h2:binOp .neq t x c=(do pure (.bool (!(← Op.equal t x c))))) (he:(Op.equal t x c).run P w=.ok b w)
  (k:rJ op b K):Yl P G w (do eqGuard op t xo (.const c) x c;binOp op t x c) K:=by
 rw[hg]
 cases op<;>simp only[rJ]at k
 case eql=>exact⟨_,.bool b,by simp[h1,he],Zn G _,k⟩
 case neq=>exact⟨_,.bool (!b),by simp[h2,he],Zn G _,k⟩
theorem P7 {t kt et:TypeId}(ht:P.underlying t=some (.map kt et)) {op:BinOp}{xo:Operand}{x:AV}{v:Value}(hx:Rep G x v) {K:AV→Prop}(k:me op x K):Yl P G w (do eqGuard op t xo (.const (.map none)) v (.map none);binOp op t v (.map none)) K:=by
 have hg:∀ r,eqGuard op t xo (.const (.map none)) (.map r) (.map none)=pure ():=fun r=>by unfold eqGuard;split<;>rfl
 unfold me at k
 split at k<;>try simp only[Rep]at hx
 ·obtain⟨b,_,rfl⟩:=hx
  exact ip (b:=false) (hg _) rfl rfl (iK fun d=>by simp[Op.equalIn,run_underlying ht]) k
 ·obtain⟨b,_,rfl⟩:=hx
  exact ip (b:=false) (hg _) rfl rfl (iK fun d=>by simp[Op.equalIn,run_underlying ht]) k
 ·obtain⟨rfl,_⟩:=hx
  exact ip (b:=true) (hg _) rfl rfl (iK fun d=>by simp[Op.equalIn,run_underlying ht]) k
 ·obtain⟨rfl,_⟩:=hx
  exact ip (b:=true) (hg _) rfl rfl (iK fun d=>by simp[Op.equalIn,run_underlying ht]) k
 ·exact k.elim
theorem Qe {t:TypeId}{ms:Array (String×TypeId)}(ht:P.underlying t=some (.interface ms)) {op:BinOp}{xo:Operand}{x:AV}{v:Value}(hx:Rep G x v) {K:AV→Prop}(k:lI op x K):Yl P G w (do eqGuard op t xo (.const .nilIface) v .nilIface;binOp op t v .nilIface) K:=by
 have hg:∀ u y,eqGuard op t xo (.const .nilIface) (.iface u y) .nilIface=pure ():=fun u y=>by unfold eqGuard;split<;>rfl
 have hg2:eqGuard op t xo (.const .nilIface) .nilIface .nilIface=pure ():=by
  unfold eqGuard
  split<;>first|rfl|(simp;done)
 unfold lI at k
 split at k<;>try simp only[Rep]at hx
 ·obtain⟨y,rfl,_⟩:=hx
  exact ip (b:=false) (hg _ _) rfl rfl (iK fun d=>by simp[Op.equalIn,run_underlying ht]) k
 ·obtain⟨y,rfl,_⟩:=hx
  exact ip (b:=false) (hg _ _) rfl rfl (iK fun d=>by simp[Op.equalIn,run_underlying ht]) k
 ·obtain⟨rfl,_⟩:=hx
  exact ip (b:=true) hg2 rfl rfl (iK fun d=>by simp[Op.equalIn,run_underlying ht]) k
 ·obtain⟨rfl,_⟩:=hx
  exact ip (b:=true) hg2 rfl rfl (iK fun d=>by simp[Op.equalIn,run_underlying ht]) k
 ·exact k.elim
theorem Ql {t:TypeId}{a b:Array TypeId}{c:Bool}(ht:P.underlying t=some (.func a b c)) {op:BinOp}{xo:Operand}{x:AV}{v:Value}(hx:Rep G x v) {K:AV→Prop}(k:mj op x K):Yl P G w (do eqGuard op t xo (.const .nilFunc) v .nilFunc;binOp op t v .nilFunc) K:=by
 have hg:∀ x,eqGuard op t xo (.const .nilFunc) x .nilFunc=pure ():=fun x=>by unfold eqGuard;split<;>first|rfl|(split<;>first|rfl|simp_all)
 unfold mj at k
 split at k<;>try simp only[Rep]at hx
 ·obtain⟨y,z,rfl,_⟩:=hx
  exact ip (b:=false) (hg _) rfl rfl (iK fun d=>by simp[Op.equalIn,run_underlying ht]) k
 ·obtain⟨y,z,rfl,_⟩:=hx
  exact ip (b:=false) (hg _) rfl rfl (iK fun d=>by simp[Op.equalIn,run_underlying ht]) k
 ·obtain⟨rfl,_⟩:=hx
  exact ip (b:=true) (hg _) rfl rfl (iK fun d=>by simp[Op.equalIn,run_underlying ht]) k
 ·obtain⟨rfl,_⟩:=hx
  exact ip (b:=true) (hg _) rfl rfl (iK fun d=>by simp[Op.equalIn,run_underlying ht]) k
 ·exact k.elim
theorem PA {t e:TypeId}(ht:P.underlying t=some (.slice e)) {op:BinOp}{xo:Operand}{x:AV}{v:Value}(hx:Rep G x v) {K:AV→Prop}(k:nq op x K):Yl P G w (do eqGuard op t xo (.const (.slice none 0 0)) v (.slice none 0 0);binOp op t v (.slice none 0 0)) K:=by
 have hg:∀ a b c,eqGuard op t xo (.const (.slice none 0 0)) (.slice a b c) (.slice none 0 0)=pure ():=fun a b c=>by unfold eqGuard;split<;>rfl
 have some_ok:∀ (a:Addr) (l c:Nat),rJ op false K→Yl P G w (do eqGuard op t xo (.const (.slice none 0 0)) (.slice (some a) l c) (.slice none 0 0);binOp op t (.slice (some a) l c) (.slice none 0 0)) K:=fun a l c k=>
  ip (b:=false) (hg _ _ _) rfl rfl (iK fun d=>by simp[Op.equalIn,run_underlying ht]) k
 have none_ok:rJ op true K→Yl P G w (do eqGuard op t xo (.const (.slice none 0 0)) (.slice none 0 0) (.slice none 0 0);binOp op t (.slice none 0 0) (.slice none 0 0)) K:=fun k=>
  ip (b:=true) (hg _ _ _) rfl rfl (iK fun d=>by simp[Op.equalIn,run_underlying ht]) k
 unfold nq at k
 split at k<;>try simp only[Rep]at hx
 ·obtain⟨b,o,c,ad,_,_,_,_,rfl⟩:=hx;exact some_ok _ _ _ k
 ·rcases hx with ⟨rfl,_,za,rfl⟩|⟨b,o,rfl,_⟩
  ·rw[if_pos rfl]at k
   cases za with
   | none=>exact none_ok k.1
   | some za=>exact some_ok _ _ _ k.2
  ·refine some_ok _ _ _ ?_
   split at k
   ·exact k.2
   ·exact k
 ·rcases hx with ⟨rfl,_,za,rfl⟩|⟨b,o,c,_,rfl,_⟩
  ·rw[if_pos rfl]at k
   cases za with
   | none=>exact none_ok k.1
   | some za=>exact some_ok _ _ _ k.2
  ·refine some_ok _ _ _ ?_
   split at k
   ·exact k.2
   ·exact k
 ·exact k.elim
end
end
section
variable [Tabs]
section
variable {P:Program}{G:Gh}{h:ae}{w:World}
def aaF:TypeDesc→AV→AV→Option Bool
 | .bool,.lit (.bool a),.lit (.bool b)=>some (a==b)
 | .int _,.lit (.int j a),.lit (.int k b)=>if j=k then some (a==b) else none
 | .string,.lit (.string a),.lit (.string b)=>some (a==b)
 | _,_,_=>none
def xr:List TypeDesc→List AV→List AV→Option Bool
 | [],[],[]=>some true
 | d::ds,a::az,b::bs=>match aaF d a b with
   | some x=>(match xr ds az bs with|some y=>some (x&&y)|none=>none)
   | none=>none
 | _,_,_=>none
def Fd (op:BinOp) (ds:List TypeDesc) (x y:AV) (K:AV→Prop):Prop:=
 match x,y with
 | .agg az,.agg bs=>(match xr ds az bs with|some b=>rJ op b K|none=>False)
 | _,_=>False
def wt (P:Program):List Field→Nat→Option (List TypeDesc)
 | [],_=>some []
 | f :: fs, k => if (f.offset == k && f.name != "_") = true then (match P.underlying f.type with
   | some .bool=>(wt P fs (k+1)).map (.bool::·)
   | some (.int j)=>(wt P fs (k+1)).map (.int j::·)
   | some .string=>(wt P fs (k+1)).map (.string::·)
   | _=>none) else none
theorem YB {d:TypeDesc}{a b:AV}{x y:Value}{r:Bool}(hx:Rep G a x) (hy:Rep G b y) (h:aaF d a b=some r) {t:TypeId}(ht:P.underlying t=some d) (n:Nat):(Op.equalIn (n+1) t x y).run P w=.ok r w:=by
 unfold aaF at h
 split at h
 ·simp only[Rep]at hx hy
  obtain⟨rfl,_⟩:=hx
  obtain⟨rfl,_⟩:=hy
  cases h
  simp[Op.equalIn,run_underlying ht]
 ·simp only[Rep]at hx hy
  obtain⟨rfl,_⟩:=hx
  obtain⟨rfl,_⟩:=hy
  split at h
  ·rename_i hk
   cases h
   subst hk
   simp[Op.equalIn,run_underlying ht]
  ·cases h
 ·simp only[Rep]at hx hy
  obtain⟨rfl,_⟩:=hx
  obtain⟨rfl,_⟩:=hy
  cases h
  simp[Op.equalIn,run_underlying ht]
 ·cases h
theorem LO {t:TypeId}{d:TypeDesc}(ht:P.underlying t=some d) (hd:mc d=false) {cs:Array Value}{k:Nat}{v:Value}(h:cs[k]?=some v):(part t cs k).run P w=.ok v w:=by
 simp[part,sX ht,hd,h]
theorem Et (n:Nat):∀ (fs:List Field) (k:Nat) (ds:List TypeDesc) (az bs:List AV) (xs ys:Array Value) (r:Bool),wt P fs k=some ds→RepL G az (xs.toList.drop k)→RepL G bs (ys.toList.drop k)→xr ds az bs=some r→
  (Op.eqFields (n+1) xs ys fs).run P w=.ok r w
 | [],k,ds,az,bs,xs,ys,r,hf,hx,hy,h=>by
   simp only[wt,Option.some.injEq]at hf
   subst hf
   unfold xr at h
   split at h
   ·cases h;simp[Op.eqFields]
   ·rename_i hn;cases hn
   ·cases h
 | f::fs,k,ds,az,bs,xs,ys,r,hf,hx,hy,h=>by
   simp only[wt]at hf
   split at hf
   ·rename_i hc
    simp only[Bool.and_eq_true,beq_iff_eq,bne_iff_ne,ne_eq]at hc
    have key:∀ (d:TypeDesc),P.underlying f.type=some d→mc d=false→(wt P fs (k+1)).map (d::·)=some ds→(Op.eqFields (n+1) xs ys (f::fs)).run P w=.ok r w:=by
     intro d hd hag hm
     cases hfs:wt P fs (k+1) with
     | none=>rw[hfs]at hm;cases hm
     | some ds'=>
       rw[hfs]at hm
       simp only[Option.map_some,Option.some.injEq]at hm
       subst hm
       unfold xr at h
       split at h
       ·rename_i hn;cases hn
       ·rename_i d' ds2 a az' b bs' hn
        cases hn
        split at h
        ·rename_i x hx1
         split at h
         ·rename_i y hy1
          cases h
          simp only[RepL]at hx hy
          obtain⟨v,vs,e1,r1,r2⟩:=hx
          obtain⟨u,us,e2,r3,r4⟩:=hy
          have hv:xs[k]?=some v:=by have:=congrArg (·[0]?) e1;simpa using this
          have hu:ys[k]?=some u:=by have:=congrArg (·[0]?) e2;simpa using this
          have hvs:vs=xs.toList.drop (k+1):=by have:=congrArg List.tail e1;simpa using this.symm
          have hus:us=ys.toList.drop (k+1):=by have:=congrArg List.tail e2;simpa using this.symm
          have ih:=Et n fs (k+1) ds' az' bs' xs ys y hfs (hvs ▸ r2) (hus ▸ r4) hy1
          simp only[Op.eqFields,Sem.run_bind,Sem.run_ite,hc.1]
          rw[if_pos (by simpa using hc.2)]
          simp only[LO hd hag hv,LO hd hag hu,Result.andThen_ok,YB r1 r3 hx1 hd n]
          cases x
          ·simp
          ·simpa using ih
         ·cases h
        ·cases h
       ·cases h
    split at hf
    ·exact key _ ‹_› rfl hf
    ·exact key _ ‹_› rfl hf
    ·exact key _ ‹_› rfl hf
    ·cases hf
   ·cases hf
theorem Yp {t:TypeId}{fs:Array Field}{ds:List TypeDesc}(ht:P.underlying t=some (.struct fs)) (hf:wt P fs.toList 0=some ds) (hp:P.stoodInHeld t=false) (hm:P.eqGuardType P.depth t=false) {op:BinOp}{xo yo:Operand}{x y:AV}{a b:Value}(hx:Rep G x a) (hy:Rep G y b)
  {K:AV→Prop} (k:Fd op ds x y K):Yl P G w (do eqGuard op t xo yo a b;binOp op t a b) K:=by
 unfold Fd at k
 split at k
 ·rename_i az bs
  split at k
  ·rename_i r hr
   simp only[Rep]at hx hy
   obtain⟨vs,rfl,hx⟩:=hx
   obtain⟨us,rfl,hy⟩:=hy
   have hfo:P.fieldsOf t=fs:=by simp[Program.fieldsOf,ht]
   have he:∀ n,(Op.equalIn (n+2) t (.agg vs.toArray) (.agg us.toArray)).run P w=.ok r w:=fun n=>by
    rw[run_equalIn_struct w (n+1) t _ _ (by rw[hfo];exact ht) hp,hfo]
    exact Et n _ 0 ds az bs _ _ r hf (by simpa using hx) (by simpa using hy) hr
   have hg:=run_eqGuard_agg (P:=P) w op t xo yo vs.toArray us.toArray hm
   cases op<;>simp only[rJ]at k
   case eql=>exact⟨_,.bool r,by rw[Sem.run_bind,hg,Result.andThen_ok,run_eql_struct,he 9998];rfl,Zn G _,k⟩
   case neq=>exact⟨_,.bool (!r),by rw[Sem.run_bind,hg,Result.andThen_ok,run_neq_struct,he 9998];rfl,Zn G _,k⟩
  ·exact k.elim
 ·exact k.elim
end
end
section
variable [Tabs]
def yg (v:AV) (K:AV→Prop):Prop:=match v with|.lit (.string s)=>K (I s.size)|_=>False
def yK (v:AV) (K:AV→Prop):Prop:=match v with|.sl _ _ len _=>K (I len)|.snap n _=>K (I n)|.full n _=>K (I n)|_=>False
def yQ (v:AV) (h:ae) (K:AV→Prop):Prop:=match v with|.map i=>(match h[i]? with|some (.amap es _)=>K (I es.length)|_=>False)|_=>False
def aaQ (v:AV) (h:ae) (K:QT):Prop:=v.isTup=false∧U7 v.cells h K
structure ai (op:BinOp) (x y:AV) (K:AV→Prop):Prop where
 mk::(out:DH op x y K)
structure Je (op:BinOp) (x y:AV) (K:AV→Prop):Prop where
 mk::(out:wn op x y K)
structure IR (op:BinOp) (x y:AV) (K:AV→Prop):Prop where
 mk::(out:we op x y K)
structure qUn (op:UnOp) (x:AV) (K:AV→Prop):Prop where
 mk::(out:pUn op x K)
structure ci (d:IntKind) (x:AV) (K:AV→Prop):Prop where
 mk::(out:lW d x K)
structure qy (d:FloatKind) (x:AV) (K:AV→Prop):Prop where
 mk::(out:lP d x K)
structure xw (x:AV) (K:AV→Prop):Prop where
 mk::(out:lH x K)
structure aF (x:AV) (K:AV→Prop):Prop where
 mk::(out:HN x K)
structure ab (n:Nat) (x:AV) (K:AV→Prop):Prop where
 mk::(out:eT n x K)
structure aq (n:Nat) (x:AV) (h:ae) (K:AV→Prop):Prop where
 mk::(out:mH n x h K)
structure ag (x:AV) (h:ae) (K:AV→Prop):Prop where
 mk::(out:ml x h K)
structure Cd (o n:Nat) (x:AV) (K:AV→Prop):Prop where
 mk::(out:pS o n x K)
structure B1 (o:Nat) (x:AV) (K:AV→Prop):Prop where
 mk::(out:qb o x K)
structure bk (x i:AV) (K:AV→Prop):Prop where
 mk::(out:kH x i K)
structure ak (n:Nat) (x i:AV) (K:AV→Prop):Prop where
 mk::(out:dn n x i K)
structure ce (m n:Nat) (x i:AV) (K:AV→Prop):Prop where
 mk::(out:cQ m n x i K)
structure bo (x:AV) (a b:Option AV) (K:AV→Prop):Prop where
 mk::(out:iq x a b K)
structure nk (n:Nat) (x:AV) (a b:Option AV) (K:AV→Prop):Prop where
 mk::(out:ik n x a b K)
structure AK (x:AV) (K:AV→Prop):Prop where
 mk::(out:lK x K)
structure bK (x:AV) (K:AV→Prop):Prop where
 mk::(out:yg x K)
structure aW (x:AV) (K:AV→Prop):Prop where
 mk::(out:yK x K)
structure H5 (x:AV) (h:ae) (K:AV→Prop):Prop where
 mk::(out:yQ x h K)
structure ao (i:Nat) (x:AV) (K:AV→Prop):Prop where
 mk::(out:ie i x K)
structure B0 (x y:AV) (K:AV→Prop):Prop where
 mk::(out:DY x y K)
structure Ey (x y:AV) (K:AV→Prop):Prop where
 mk::(out:DF x y K)
structure vN (t:TypeId) (x:AV) (K:AV→Prop):Prop where
 mk::(out:Cs t x K)
structure ax (z:List AV) (ps:List (Nat×Nat×AV)) (K:AV→Prop):Prop where
 mk::(out:oh z ps K)
structure am (n m:Nat) (vs:List AV) (K:AV→Prop):Prop where
 mk::(out:gH n m vs K)
structure cP (cs:List AV) (h:ae) (K:QT):Prop where
 mk::(out:U7 cs h K)
structure gF (v:AV) (h:ae) (K:QT):Prop where
 mk::(out:aaQ v h K)
structure an (n:Nat) (x y:AV) (h:ae) (K:ae→Prop):Prop where
 mk::(out:ur n x y h K)
structure bl (n m:Nat) (x y:AV) (h:ae) (K:QT):Prop where
 mk::(out:kF n m x y h K)
end
section
variable [Tabs]
section
variable {P:Program}{G:Gh}{h:ae}{w:World}
def UpV (P:Program) (N:Value→World→Prop):Result Next→Prop
 | .ok (.value v) w'=>N v w'
 | .ok .skip w'=>N undef w'
 | .ok (.enter f args) w'=>Calls P f args w' fun e w''=>∃ v,e=.returned v∧N v w''
 | _=>False
theorem Dk {o:Oper}{a:Act}{next:Act→World→Prop}{Q:Exit→Act→World→Prop}{r:Result Next}(k:UpV P (fun v w'=>next (a.put o.dst v) w') r):o.upon P a next Q r:=by
 unfold UpV at k
 split at k
 ·exact k
 ·exact k
 ·refine Calls.mono k fun e w'' ⟨v,he,hn⟩=>?_
  subst he
  exact hn
 ·exact k.elim
def N0 (G:Gh) (h:ae) (w:World) (K:QT) (v:Value) (w':World):Prop:=∃ r h' G',Rep G' r v∧K r h'∧Sim G' h' w'∧Evo G h w G' h' w'
theorem be (s:Sim G h w) {m:Sem Value}{K:QT}(k:Yl P G w m fun r=>K r h):UpV P (N0 G h w K) ((do pure (.value (← m)):Sem Next).run P w):=by
 obtain⟨r,v,h1,h2,h3⟩:=k
 simp only[Sem.run_bind,h1,Result.andThen_ok,Sem.run_pure]
 exact⟨r,h,G,h2,h3,s,Evo.refl _ _ _⟩
theorem gj {m:Sem Value}{K:QT}(k:Ye P G h w m K):UpV P (N0 G h w K) ((do pure (.value (← m)):Sem Next).run P w):=by
 obtain⟨r,v,h',G',w',h1,h2,h3,h4,h5⟩:=k
 simp only[Sem.run_bind,h1,Result.andThen_ok,Sem.run_pure]
 exact⟨r,h',G',h2,h3,h4,h5⟩
def Rh (P : Program) (f : FuncId) : Prop := ∃ fn, P.funcs[f]? = some fn ∧ (fn.name == "runtime.NumGoroutine") = false ∧ fn.body.isNone = false
structure ACall (P:Program) (f:FuncId) (args:List AV) (h:ae) (K:QT):Prop where
 body:Rh P f
 calls:ACalls P f args h K
def tR (P:Program) (v:AV) (args:List AV) (h:ae) (K:QT):Prop:=
 match v with
 | .fn (.func f) fi ca=>ACall P f (fi++args++ca) h K
 | _=>False
theorem ACall.mono {f:FuncId}{args:List AV}{K K':QT}(c:ACall P f args h K) (hk:∀ r h',K r h'→K' r h'):ACall P f args h K':=⟨c.1,c.2.mono hk⟩
theorem YH (s:Sim G h w) {v:AV}{args:List AV}{x:Value}{ys:Array Value}{K:QT}(hx:Rep G v x) (hy:RepL G args ys.toList) (k:tR P v args h K):
  UpV P (N0 G h w K) ((do let d ← Deferred.ofValue x ys;invoke d.target d.args:Sem Next).run P w):=by
 unfold tR at k
 split at k
 ·rename_i f fi ca
  obtain⟨⟨fn,h1,h2,h3⟩,k⟩:=k
  simp only[Rep]at hx
  obtain⟨vs,ws,rfl,hv,hw⟩:=hx
  simp only[Deferred.ofValue,Sem.run_bind,Sem.run_pure,Result.andThen_ok,invoke,callFunc,run_program,h1,h2,h3,Bool.false_eq_true,if_false]
  have:=k G w _ s ((hv.append hy).append hw)
  have e:(vs++ys.toList++ws).toArray=vs.toArray++ys++ws.toArray:=by
   apply Array.toList_inj.1;simp
  rw[e]at this
  exact this.mono fun e w'' ⟨r,v,h',G',a,b,c,d,ev⟩=>⟨v,a,r,h',G',b,c,d,ev⟩
 ·exact k.elim
def en (a b:Option AV) (K:AV→AV→Prop):Prop:=bT a fun x=>bT b fun y=>K x y
def dT (a:Option (List AV)) (K:List AV→Prop):Prop:=match a with|some l=>K l|none=>False
def DQ (env:Env):Option Operand→Option (Option AV)
 | none=>some none
 | some x=>match opv env x with|some v=>some (some v)|none=>none
def Aa (a:Option (Option AV)) (K:Option AV→Prop):Prop:=match a with|some l=>K l|none=>False
def wc (P:Program) (t:TypeId) (is:List Nat) (vs:List AV) (K:AV→Prop):Prop:=
 match P.underlying t,P.info? t with
 | some (.struct fs),some i=>(match i.zero,iU P fs.toList with
   | some z,some l=>if okV z then (match zN (fun j=>l[j]?) (is.zip vs) with|some qs=>ax (ofV z).cells qs K|none=>False) else False
   | _,_=>False)
 | _,_=>False
def gL (P:Program) (t:TypeId) (n:Nat) (is:List Nat) (vs:List AV) (K:AV→Prop):Prop:=
 match P.underlying t with
 | some (.slice e)=>(match P.info? e with
   | some i=>(match i.zero with
     | some _=>if (is==List.range n&&decide (n*i.size≤16777216))=true then am n i.size vs K else False
     | none=>False)
   | none=>False)
 | _=>False
def kr (P:Program) (t:TypeId) (v:AV) (h:ae) (K:AV→Prop):Prop:=
 match P.underlying t,P.info? t with
 | some d,some i=>if mc d=true then aq i.size v h K else ag v h K
 | _,_=>False
def Mi (P:Program) (op:BinOp) (t:TypeId) (x y:AV) (K:AV→Prop):Prop:=
 match P.underlying t with
 | some .bool=>Je op x y K
 | some (.pointer _)=>IR op x y K
 | some (.int _)=>ai op x y K
 | some .string=>ai op x y K
 | some (.float _)=>ai op x y K
 | _=>False
def CX (P:Program) (s d:TypeId) (x:AV) (K:AV→Prop):Prop:=
 match P.underlying s,P.underlying d with
 | some (.int _),some (.int k)=>ci k x K
 | some (.int _),some (.float k)=>qy k x K
 | some .string,some .string=>xw x K
 | _,_=>False
def mX (P:Program) (t:TypeId) (x:AV) (lo hi mx:Option AV) (K:AV→Prop):Prop:=
 match P.underlying t,mx with
 | some .string,none=>bo x lo hi K
 | some (.slice e),none=>(match P.info? e with|some i=>nk i.size x lo hi K|none=>False)
 | some (.slice e),some (.lit (.int _ 0))=>(match P.info? e,lo,hi with|some _,none,some (.lit (.int _ 0))=>AK x K|_,_,_=>False)
 | _,_=>False
def mR (P:Program) (t:TypeId) (x:AV) (f:Nat) (K:AV→Prop):Prop:=
 match P.underlying t with
 | some (.struct fs)=>(match fs[f]? with
   | some fd=>(match P.info? fd.type with|some i=>if i.size=0 then False else ab fd.offset x K|none=>False)
   | none=>False)
 | _=>False
def CZ (P:Program) (t:TypeId) (off:Nat) (x:AV) (K:AV→Prop):Prop:=
 match P.underlying t,P.info? t with
 | some d,some i=>if mc d=true then Cd off i.size x K else B1 off x K
 | _,_=>False
def wG (P:Program) (t:TypeId) (x:AV) (f:Nat) (K:AV→Prop):Prop:=
 match P.underlying t with
 | some (.struct fs)=>(match fs[f]? with|some fd=>CZ P fd.type fd.offset x K|none=>False)
 | _=>False
def eo (P:Program) (t:TypeId) (x i:AV) (K:AV→Prop):Prop:=
 match P.underlying t with
 | some (.slice e)=>(match P.info? e with|some ei=>ak ei.size x i K|none=>False)
 | some (.array n e)=>(match P.info? e with|some ei=>ce n ei.size x i K|none=>False)
 | _=>False
def CE (P:Program) (t:TypeId) (x i:AV) (K:AV→Prop):Prop:=
 match P.underlying t with
 | some .string=>bk x i K
 | _=>False
def CQ (P:Program) (t:TypeId) (v:AV) (h:ae) (K:AV→Prop):Prop:=
 match P.underlying t with
 | some .string=>bK v K
 | some (.slice _)=>aW v K
 | some (.map _ _)=>H5 v h K
 | _=>False
theorem YJ {t:TypeId}{v:AV}{K:AV→Prop}(k:CQ P t v h K):∃ d,P.underlying t=some d∧EH d v=true∧aaJ v h K:=by
 unfold CQ at k
 split at k
 ·refine⟨_,‹_›,?_⟩
  replace k:=k.out;unfold yg at k;split at k
  ·exact⟨rfl,k⟩
  ·exact k.elim
 ·refine⟨_,‹_›,?_⟩
  replace k:=k.out;unfold yK at k;split at k
  ·exact⟨rfl,k⟩
  ·exact⟨rfl,k⟩
  ·exact⟨rfl,k⟩
  ·exact k.elim
 ·refine⟨_,‹_›,?_⟩
  replace k:=k.out;unfold yQ at k;split at k
  ·exact⟨rfl,k⟩
  ·exact k.elim
 ·exact k.elim
def XQ (i:TypeInfo) (d2:TypeDesc):Bool:=
 (match i.zero with|some z=>z.cells.size==i.size|none=>false)&&decide (0<i.bytes)&&(match d2 with|.int _=>false|_=>true)
def A3 (P:Program) (t t2:TypeId) (x y:AV) (h:ae) (K:QT):Prop:=
 match P.underlying t,P.underlying t2 with
 | some (.slice e),some d2=>(match P.info? e with
   | some i=>if XQ i d2=true then bl i.size i.bytes x y h K else False
   | none=>False)
 | _,_=>False
def Y8 (P:Program) (t:TypeId) (h:ae) (K:QT):Prop:=
 match P.info? t with
 | some i=>(match i.zero with|some z=>if okV z=true then cP (ofV z).cells h K else False|none=>False)
 | none=>False
def LL (P:Program) (t:TypeId) (x u:AV) (h:ae) (K:ae→Prop):Prop:=
 match P.info? t with
 | some i=>an i.size x u h K
 | none=>False
def BU (P:Program) (t:TypeId) (x:AV) (K:AV→Prop):Prop:=
 match P.underlying t with
 | some (.interface _)=>False
 | some _=>vN t x K
 | none=>False
def vP (P:Program) (env:Env) (h:ae) (o:Oper) (K:QT):Prop:=
 match o.op with
 | .move x=>bT (opv env x) fun v=>K v h
 | .assign x=>bT (opv env x) fun v=>K v h
 | .pick c a b=>bT (opv env c) fun cv=>en (opv env a) (opv env b) fun av bv=>ifB cv (K av h) (K bv h)
 | .alloc e=>Y8 P e h K
 | .box _ x=>bT (opv env x) fun v=>gF v h K
 | .build t ps=>dT (ko env (ps.toList.map (·.2))) fun vs=>wc P t (ps.toList.map (·.1)) vs fun r=>K r h
 | .buildSlice t n ps=>dT (ko env (ps.toList.map (·.2))) fun vs=>gL P t n (ps.toList.map (·.1)) vs fun r=>K r h
 | .load t x=>bT (opv env x) fun v=>kr P t v h fun r=>K r h
 | .store t x u=>en (opv env x) (opv env u) fun v y=>LL P t v y h fun h'=>K (.tup []) h'
 | .nilCheck x=>bT (opv env x) fun v=>aF v fun r=>K r h
 | .binOp op t x y _=>en (opv env x) (opv env y) fun a b=>Mi P op t a b fun r=>K r h
 | .unOp op _ x=>bT (opv env x) fun a=>qUn op a fun r=>K r h
 | .convert s d x=>bT (opv env x) fun a=>CX P s d a fun r=>K r h
 | .makeInterface t x=>bT (opv env x) fun a=>BU P t a fun r=>K r h
 | .makeFunc f fi ca=>dT (ko env fi.toList) fun vs=>dT (ko env ca.toList) fun ws=>K (.fn f vs ws) h
 | .slice t x lo hi mx=>bT (opv env x) fun a=>Aa (DQ env lo) fun l=>Aa (DQ env hi) fun u=>Aa (DQ env mx) fun m=>mX P t a l u m fun r=>K r h
 | .fieldAddr t x f=>bT (opv env x) fun a=>mR P t a f fun r=>K r h
 | .field t x f=>bT (opv env x) fun a=>wG P t a f fun r=>K r h
 | .indexAddr t x i=>en (opv env x) (opv env i) fun a b=>eo P t a b fun r=>K r h
 | .index t x i=>en (opv env x) (opv env i) fun a b=>CE P t a b fun r=>K r h
 | .extract x i=>bT (opv env x) fun a=>ao i a fun r=>K r h
 | .call c=>dT (ko env c.args.toList) fun vs=>(match c.callee with
   | .value f=>bT (opv env f) fun v=>tR P v vs h K
   | .builtin .len=>(match vs,c.argTypes.toList with|[v],[t]=>CQ P t v h fun r=>K r h|_,_=>False)
   | .builtin .append=>(match vs,c.argTypes.toList with|[v,u],[t,t2]=>A3 P t t2 v u h K|_,_=>False)
   | .builtin .max=>(match vs with|[v,u]=>B0 v u fun r=>K r h|_=>False)
   | .builtin .min=>(match vs with|[v,u]=>Ey v u fun r=>K r h|_=>False)
   | _=>False)
 | _=>False
theorem aG {o:Option AV}{K:AV→Prop}(k:bT o K):∃ v,o=some v∧K v:=by
 unfold bT at k;split at k
 ·exact⟨_,rfl,k⟩
 ·exact k.elim
theorem dx {o:Option (List AV)}{K:List AV→Prop}(k:dT o K):∃ v,o=some v∧K v:=by
 unfold dT at k;split at k
 ·exact⟨_,rfl,k⟩
 ·exact k.elim
theorem sP {o:Option (Option AV)}{K:Option AV→Prop}(k:Aa o K):∃ v,o=some v∧K v:=by
 unfold Aa at k;split at k
 ·exact⟨_,rfl,k⟩
 ·exact k.elim
theorem FL {env:Env}{a:Act}(r:EnvRep G env a.tmps) {x:Option Operand}{v:Option AV}(h:DQ env x=some v):mV G v (x.map a.eval):=by
 cases x with
 | none=>simp only[DQ,Option.some.injEq]at h;subst h;trivial
 | some x=>
   simp only[DQ]at h
   split at h
   ·rename_i u hu
    cases h
    exact aO r hu
   ·cases h
theorem RepL.two {x y:AV}{l:List Value}(r:RepL G [x,y] l):∃ a b,l=[a,b]∧Rep G x a∧Rep G y b:=by
 simp only[RepL]at r
 obtain⟨a,_,rfl,h1,b,_,rfl,h2,rfl⟩:=r
 exact⟨a,b,rfl,h1,h2⟩
theorem RepL.single {x:AV}{l:List Value}(r:RepL G [x] l):∃ a,l=[a]∧Rep G x a:=by
 simp only[RepL]at r
 obtain⟨a,_,rfl,h1,rfl⟩:=r
 exact⟨a,rfl,h1⟩
theorem Y4 (s:Sim G h w) {env:Env}{a:Act}(r:EnvRep G env a.tmps) {o:Oper}{K:QT}(k:vP P env h o K):UpV P (N0 G h w K) ((execOp a.eval o).run P w):=by
 obtain⟨dst,op,ty,pos,after,guard⟩:=o
 cases op<;>simp only[vP]at k
 case move x=>
  obtain⟨v,h1,k⟩:=aG k
  simp only[execOp,Sem.run_pure]
  exact⟨v,h,G,aO r h1,k,s,Evo.refl _ _ _⟩
 case assign x=>
  obtain⟨v,h1,k⟩:=aG k
  simp only[execOp,Sem.run_pure]
  exact⟨v,h,G,aO r h1,k,s,Evo.refl _ _ _⟩
 case pick c x y=>
  obtain⟨cv,h1,k⟩:=aG k
  obtain⟨xv,h2,k⟩:=aG k
  obtain⟨yv,h3,k⟩:=aG k
  have hc:=aO r h1
  unfold ifB at k
  split at k
  ·simp only[Rep]at hc
   simp only[execOp,hc.1,asBool,Sem.run_bind,Sem.run_pure,Result.andThen_ok,if_true]
   exact⟨xv,h,G,aO r h2,k,s,Evo.refl _ _ _⟩
  ·simp only[Rep]at hc
   simp only[execOp,hc.1,asBool,Sem.run_bind,Sem.run_pure,Result.andThen_ok,Bool.false_eq_true,if_false]
   exact⟨yv,h,G,aO r h3,k,s,Evo.refl _ _ _⟩
  ·exact k.elim
 case alloc e=>
  unfold Y8 at k
  split at k
  ·rename_i i hi
   split at k
   ·rename_i z hz
    split at k
    ·rename_i hzo
     have hzc:RepL G (ofV z).cells z.cells.toList:=(qI G z hzo).cells (by
      unfold ofV F9;split<;>(try split)<;>rfl)
     obtain⟨r',h',G',q1,q2,q3,q4⟩:=RG (t:=e) s hzc k.out
     refine gj ⟨r',_,h',G',_,?_,q1,q2,q3,q4⟩
     simp only[Instr.alloc,Sem.run_bind,zeroValue,typeInfo,run_program,Result.andThen_ok,hi,hz,Sem.run_pure,newVar,newRow,run_newObj]
     rfl
    ·exact k.elim
   ·exact k.elim
  ·exact k.elim
 case box e x=>
  obtain⟨v,h1,k⟩:=aG k
  obtain⟨⟨ht,k⟩⟩:=k
  have hv:=(aO r h1).cells ht
  obtain⟨r',h',G',q1,q2,q3,q4⟩:=RG (t:=e) s hv k
  refine gj ⟨r',_,h',G',_,?_,q1,q2,q3,q4⟩
  simp only[Instr.box,newVar,newRow,Sem.run_bind,run_newObj,Result.andThen_ok,Sem.run_pure]
  rfl
 case build t ps=>
  obtain⟨vs,h1,k⟩:=dx k
  unfold wc at k
  split at k
  ·rename_i fs i ht hi
   split at k
   ·rename_i z l hz hl
    split at k
    ·rename_i hzo
     split at k
     ·rename_i qs hq
      have hr:=i9 r h1
      have hlen:vs.length=ps.size:=by have:=hr.length;simpa using this.symm
      refine be s (TX (ps:=(ps.toList.map (·.1)).zip vs) ht hi hz hzo hl hq ?_ ?_ k.out)
      ·rw[List.map_fst_zip (by simp;omega)]
       simp
      ·rw[List.map_snd_zip (by simp;omega)]
       have e2:(ps.map fun p=>(p.1,a.eval p.2)).toList.map (·.2)=(ps.toList.map (·.2)).map a.eval:=by simp[List.map_map,Function.comp_def]
       rw[e2];exact hr
     ·exact k.elim
    ·exact k.elim
   ·exact k.elim
  ·exact k.elim
 case buildSlice t n ps=>
  obtain⟨vs,h1,k⟩:=dx k
  unfold gL at k
  split at k
  ·rename_i e ht
   split at k
   ·rename_i i hi
    split at k
    ·rename_i z hz
     split at k
     ·rename_i hc
      simp only[Bool.and_eq_true,beq_iff_eq,decide_eq_true_eq]at hc
      have hr:=i9 r h1
      have hn:ps.toList.length=n:=by have:=congrArg List.length hc.1;simpa using this
      have e2:(ps.toList.map fun p=>a.eval p.2)=(ps.toList.map (·.2)).map a.eval:=by simp[List.map_map,Function.comp_def]
      obtain⟨r',v,h',G',w',q1,q2,⟨q3,q5⟩,q4⟩:=Fj s (xs:=ps.toList.map fun p=>a.eval p.2) (ps:=ps.map fun p=>(p.1,a.eval p.2)) ht hi hz (by
       apply List.ext_getElem?
       intro j
       simp only[Array.toList_map,List.getElem?_map,List.getElem?_zipIdx]
       rcases Nat.lt_or_ge j ps.toList.length with hj|hj
       ·have e1:=congrArg (·[j]?) hc.1
        simp only[List.getElem?_map,List.getElem?_range (show j<n by omega)]at e1
        rw[List.getElem?_eq_getElem hj]at e1 ⊢
        simp at e1
        simp[e1]
       ·rw[List.getElem?_eq_none hj];rfl) (by rw[e2];exact hr) hc.2 k.out
      subst q5
      exact gj ⟨r',v,_,G',w',q1,q2,q3,q4⟩
     ·exact k.elim
    ·exact k.elim
   ·exact k.elim
  ·exact k.elim
 case load t x=>
  obtain⟨v,h1,k⟩:=aG k
  unfold kr at k
  split at k
  ·rename_i d i ht hi
   split at k
   ·rename_i hd;exact be s (CB s ht hd hi (aO r h1) k.out)
   ·rename_i hd;exact be s (Cn s ht (by simpa using hd) (aO r h1) k.out)
  ·exact k.elim
 case store t x u=>
  obtain⟨v,h1,k⟩:=aG k
  obtain⟨y,h2,k⟩:=aG k
  unfold LL at k
  split at k
  ·rename_i i hi
   obtain⟨h',G',w',q1,q2,q3,q4⟩:=Uw s hi (aO r h1) (aO r h2) k.out
   simp only[execOp,Sem.run_bind,q1,Result.andThen_ok,Sem.run_pure]
   exact⟨.tup [],h',G',by simp[Rep,RepL,undef],q2,q3,q4⟩
  ·exact k.elim
 case nilCheck x=>
  obtain⟨v,h1,k⟩:=aG k
  have hv:=aO r h1
  replace k:=k.out
  unfold HN at k
  split at k
  ·have hv':=hv
   simp only[Rep]at hv
   obtain⟨b,o,_,e⟩:=hv
   simp only[execOp,e,Sem.run_pure]
   exact⟨_,h,G,by rw[← e];exact hv',k,s,Evo.refl _ _ _⟩
  ·have hv':=hv
   simp only[Rep]at hv
   obtain⟨b,o,e,_⟩:=hv
   simp only[execOp,e,Sem.run_pure]
   exact⟨_,h,G,by rw[← e];exact hv',k,s,Evo.refl _ _ _⟩
  ·have hv':=hv
   simp only[Rep]at hv
   obtain⟨vs,ws,e,_,_⟩:=hv
   simp only[execOp,e,Sem.run_pure]
   exact⟨_,h,G,by rw[← e];exact hv',k,s,Evo.refl _ _ _⟩
  ·exact k.elim
 case binOp op t x y yt=>
  obtain⟨v,h1,k⟩:=aG k
  obtain⟨u,h2,k⟩:=aG k
  unfold Mi at k
  split at k
  ·exact be s (Wt ‹_› (aO r h1) (aO r h2) k.out)
  ·exact be s (Wo ‹_› (aO r h1) (aO r h2) k.out)
  ·exact be s (JL (aO r h1) (aO r h2) k.out)
  ·exact be s (JL (aO r h1) (aO r h2) k.out)
  ·exact be s (JL (aO r h1) (aO r h2) k.out)
  ·exact k.elim
 case unOp op t x=>
  obtain⟨v,h1,k⟩:=aG k
  exact be s (aaA (aO r h1) k.out)
 case convert sr d x=>
  obtain⟨v,h1,k⟩:=aG k
  unfold CX at k
  split at k
  ·exact be s (QE ‹_› ‹_› (aO r h1) k.out)
  ·exact be s (O4 ‹_› ‹_› (aO r h1) k.out)
  ·exact be s (Qa ‹_› ‹_› (aO r h1) k.out)
  ·exact k.elim
 case makeInterface t x=>
  obtain⟨v,h1,k⟩:=aG k
  unfold BU at k
  split at k
  ·exact k.elim
  ·rename_i d hd ht
   exact be s (Tf ht (fun m e=>hd m e) (aO r h1) k.out)
  ·exact k.elim
 case makeFunc f fi ca=>
  obtain⟨vs,h1,k⟩:=dx k
  obtain⟨ws,h2,k⟩:=dx k
  refine be s ⟨_,_,by simp only[Instr.makeFunc,Sem.run_pure];rfl,?_,k⟩
  simp only[Rep]
  exact⟨fi.toList.map a.eval,ca.toList.map a.eval,by congr 1<;>(apply Array.toList_inj.1;simp),i9 r h1,i9 r h2⟩
 case slice t x lo hio mx=>
  obtain⟨v,h1,k1⟩:=aG k
  obtain⟨l,h2,k2⟩:=sP k1
  obtain⟨u,h3,k3⟩:=sP k2
  obtain⟨m,h4,k4⟩:=sP k3
  clear k k1 k2 k3
  have hm:=FL r h4
  have hl:=FL r h2
  have hu:=FL r h3
  clear h2 h3 h4
  unfold mX at k4
  split at k4
  ·rename_i ht
   cases mx with
   | some _=>simp[mV]at hm
   | none=>exact be s (Ps ht (aO r h1) hl hu k4.out)
  ·rename_i e ht
   cases mx with
   | some _=>simp[mV]at hm
   | none=>
     split at k4
     ·exact be s (Qg ht ‹_› (aO r h1) hl hu k4.out)
     ·exact k4.elim
  ·rename_i e k2 ht
   split at k4
   ·rename_i i k1 hinf
    cases mx with
    | none=>simp[mV]at hm
    | some mx=>
      cases lo with
      | some _=>simp[mV]at hl
      | none=>
        cases hio with
        | none=>simp[mV]at hu
        | some hi'=>
          simp only[mV,Option.map_some,Rep]at hu hm
          have:=be s (Qu (P:=P) ht hinf (aO r h1) k1 k2 k4.out)
          simp only[execOp,Option.map_some,Option.map_none,hu.1,hm.1]
          exact this
   ·exact k4.elim
  ·exact k4.elim
 case fieldAddr t x f=>
  obtain⟨v,h1,k⟩:=aG k
  unfold mR at k
  split at k
  ·rename_i fs ht
   split at k
   ·rename_i fd hfd
    split at k
    ·rename_i i hi
     split at k
     ·exact k.elim
     ·rename_i hz
      exact be s (HX ht hfd hi hz (aO r h1) k.out)
    ·exact k.elim
   ·exact k.elim
  ·exact k.elim
 case field t x f=>
  obtain⟨v,h1,k⟩:=aG k
  unfold wG at k
  split at k
  ·rename_i fs ht
   split at k
   ·rename_i fd hfd
    unfold CZ at k
    have hrun:∀ x:Value,(Instr.field t x f).run P w=(do part fd.type (← asAgg x) fd.offset:Sem Value).run P w:=fun x=>by
     simp only[Instr.field,Sem.run_bind,run_underlying ht,Result.andThen_ok,hfd]
    split at k
    ·rename_i d i hd hi
     split at k
     ·rename_i ha
      obtain⟨r',v',q1,q2,q3⟩:=S5 (P:=P) (w:=w) hd ha hi (aO r h1) k.out
      exact be s ⟨r',v',by rw[hrun];exact q1,q2,q3⟩
     ·rename_i ha
      obtain⟨r',v',q1,q2,q3⟩:=TG (P:=P) (w:=w) hd (by simpa using ha) (aO r h1) k.out
      exact be s ⟨r',v',by rw[hrun];exact q1,q2,q3⟩
    ·exact k.elim
   ·exact k.elim
  ·exact k.elim
 case indexAddr t x i=>
  obtain⟨v,h1,k⟩:=aG k
  obtain⟨u,h2,k⟩:=aG k
  unfold eo at k
  split at k
  ·split at k
   ·exact be s (yE ‹_› ‹_› (aO r h1) (aO r h2) k.out)
   ·exact k.elim
  ·split at k
   ·exact be s (xb ‹_› ‹_› (aO r h1) (aO r h2) k.out)
   ·exact k.elim
  ·exact k.elim
 case index t x i=>
  obtain⟨v,h1,k⟩:=aG k
  obtain⟨u,h2,k⟩:=aG k
  unfold CE at k
  split at k
  ·exact be s (QG ‹_› (aO r h1) (aO r h2) k.out)
  ·exact k.elim
 case extract x i=>
  obtain⟨v,h1,k⟩:=aG k
  exact be s (LU (aO r h1) k.out)
 case call c=>
  obtain⟨vs,h1,kk⟩:=dx k
  clear k
  have hr:=i9 r h1
  obtain⟨callee,args,argTypes⟩:=c
  cases callee with
  | value f=>
    simp only at kk
    obtain⟨v,h2,k3⟩:=aG kk
    have:=YH (P:=P) (ys:=args.map a.eval) s (aO r h2) (by simpa using hr) k3
    simpa [execOp,resolve] using this
  | invoke _ _=>exact kk.elim
  | builtin b=>
    cases b<;>simp only at kk<;>try exact kk.elim
    case len=>
     split at kk
     ·rename_i v t hT
      obtain⟨d,hd,hf,kk⟩:=YJ kk
      obtain⟨x,hx,hx2⟩:=hr.single
      have ha:argTypes=#[t]:=by apply Array.toList_inj.1;simpa using hT
      have hargs:args.map a.eval=#[x]:=by apply Array.toList_inj.1;simpa using hx
      subst ha
      obtain⟨r',v',q1,q2,q3⟩:=Yd (ty:=ty) s hd hx2 hf kk
      simp only[execOp,resolve,Sem.run_bind,Sem.run_pure,Result.andThen_ok,invoke,builtin,hargs,q1]
      exact⟨r',h,G,q2,q3,s,Evo.refl _ _ _⟩
     ·exact kk.elim
    case append=>
     split at kk
     ·rename_i v u t t2 hT
      unfold A3 at kk
      split at kk
      ·rename_i e d2 ht ht2
       split at kk
       ·rename_i i hi
        split at kk
        ·rename_i hok
         obtain⟨x,y,hx,hx2,hx3⟩:=hr.two
         have ha:argTypes=#[t,t2]:=by apply Array.toList_inj.1;simpa using hT
         have hargs:args.map a.eval=#[x,y]:=by apply Array.toList_inj.1;simpa using hx
         subst ha
         simp only[XQ,Bool.and_eq_true,decide_eq_true_eq]at hok
         obtain⟨⟨ho1,ho2⟩,ho3⟩:=hok
         split at ho1
         ·rename_i z hz
          have T:Gj P t t2 e i z:=⟨ht,⟨d2,ht2,fun k e=>by subst e;simp at ho3⟩,hi,hz,by simpa using ho1,ho2⟩
          obtain⟨r',v',h',G',w',q1,q2,q3,q4,q5⟩:=Qf (ty:=ty) s T hx2 hx3 kk.out
          simp only[execOp,resolve,Sem.run_bind,Sem.run_pure,Result.andThen_ok,invoke,builtin,hargs,q1]
          exact⟨r',h',G',q2,q3,q4,q5⟩
         ·cases ho1
        ·exact kk.elim
       ·exact kk.elim
      ·exact kk.elim
     ·exact kk.elim
    case max=>
     split at kk
     ·rename_i v u
      obtain⟨x,y,hx,hx2,hx3⟩:=hr.two
      have hargs:args.map a.eval=#[x,y]:=by apply Array.toList_inj.1;simpa using hx
      obtain⟨r',v',q1,q2,q3⟩:=Zl (P:=P) (w:=w) (ts:=argTypes) (t:=ty) hx2 hx3 kk.out
      simp only[execOp,resolve,Sem.run_bind,Sem.run_pure,Result.andThen_ok,invoke,builtin,hargs,q1]
      exact⟨r',h,G,q2,q3,s,Evo.refl _ _ _⟩
     ·exact kk.elim
    case min=>
     split at kk
     ·rename_i v u
      obtain⟨x,y,hx,hx2,hx3⟩:=hr.two
      have hargs:args.map a.eval=#[x,y]:=by apply Array.toList_inj.1;simpa using hx
      obtain⟨r',v',q1,q2,q3⟩:=Zf (P:=P) (w:=w) (ts:=argTypes) (t:=ty) hx2 hx3 kk.out
      simp only[execOp,resolve,Sem.run_bind,Sem.run_pure,Result.andThen_ok,invoke,builtin,hargs,q1]
      exact⟨r',h,G,q2,q3,s,Evo.refl _ _ _⟩
     ·exact kk.elim
end
end
section
variable [Tabs]
section
variable {P:Program}
theorem Tw {K K':AV→Prop}(hk:∀ v,K v→K' v) (op:BinOp) (x y:AV) (k:DH op x y K):DH op x y K':=by
 unfold DH at *
 (repeat' split at k)<;>first|exact k.elim|simp_all
theorem PE {K K':AV→Prop}(hk:∀ v,K v→K' v) (op:BinOp) (x y:AV) (k:wn op x y K):wn op x y K':=by
 unfold wn at *
 (repeat' split at k)<;>first|exact k.elim|simp_all
theorem PQ {K K':AV→Prop}(hk:∀ v,K v→K' v) (op:BinOp) (x y:AV) (k:we op x y K):we op x y K':=by
 unfold we at *
 (repeat' split at k)<;>first|exact k.elim|simp_all
theorem WO {K K':AV→Prop}(hk:∀ v,K v→K' v) (op:UnOp) (x:AV) (k:pUn op x K):pUn op x K':=by
 unfold pUn at *
 (repeat' split at k)<;>first|exact k.elim|simp_all
theorem KQ {K K':AV→Prop}(hk:∀ v,K v→K' v) (d:IntKind) (x:AV) (k:lW d x K):lW d x K':=by
 unfold lW at *
 (repeat' split at k)<;>first|exact k.elim|simp_all
theorem Ku {K K':AV→Prop}(hk:∀ v,K v→K' v) (d:FloatKind) (x:AV) (k:lP d x K):lP d x K':=by
 unfold lP at *
 (repeat' split at k)<;>first|exact k.elim|simp_all
theorem KW {K K':AV→Prop}(hk:∀ v,K v→K' v) (x:AV) (k:lH x K):lH x K':=by
 unfold lH at *
 (repeat' split at k)<;>first|exact k.elim|simp_all
theorem T7 {K K':AV→Prop}(hk:∀ v,K v→K' v) (x:AV) (k:HN x K):HN x K':=by
 unfold HN at *
 (repeat' split at k)<;>first|exact k.elim|simp_all
theorem DN {K K':AV→Prop}(hk:∀ v,K v→K' v) (n:Nat) (x:AV) (k:eT n x K):eT n x K':=by
 unfold eT at *
 (repeat' split at k)<;>first|exact k.elim|simp_all
theorem Ny {K K':AV→Prop}(hk:∀ v,K v→K' v) (n:Nat) (x:AV) (h:ae) (k:mH n x h K):mH n x h K':=by
 unfold mH at *
 (repeat' split at k)<;>first|exact k.elim|simp_all
theorem Mx {K K':AV→Prop}(hk:∀ v,K v→K' v) (x:AV) (h:ae) (k:ml x h K):ml x h K':=by
 unfold ml at *
 (repeat' split at k)<;>first|exact k.elim|simp_all
theorem NU {K K':AV→Prop}(hk:∀ v,K v→K' v) (o n:Nat) (x:AV) (k:pS o n x K):pS o n x K':=by
 unfold pS at *
 (repeat' split at k)<;>first|exact k.elim|simp_all
theorem L8 {K K':AV→Prop}(hk:∀ v,K v→K' v) (o:Nat) (x:AV) (k:qb o x K):qb o x K':=by
 unfold qb at *
 (repeat' split at k)<;>first|exact k.elim|simp_all
theorem Lh {K K':AV→Prop}(hk:∀ v,K v→K' v) (x i:AV) (k:kH x i K):kH x i K':=by
 unfold kH at *
 (repeat' split at k)<;>first|exact k.elim|simp_all
theorem DC {K K':AV→Prop}(hk:∀ v,K v→K' v) (n:Nat) (x i:AV) (k:dn n x i K):dn n x i K':=by
 unfold dn at *
 (repeat' split at k)<;>first|exact k.elim|simp_all
theorem BQ {K K':AV→Prop}(hk:∀ v,K v→K' v) (m n:Nat) (x i:AV) (k:cQ m n x i K):cQ m n x i K':=by
 unfold cQ at *
 (repeat' split at k)<;>first|exact k.elim|simp_all
theorem JN {K K':AV→Prop}(hk:∀ v,K v→K' v) (x:AV) (a b:Option AV) (k:iq x a b K):iq x a b K':=by
 unfold iq at *
 (repeat' split at k)<;>first|exact k.elim|simp_all
theorem JX {K K':AV→Prop}(hk:∀ v,K v→K' v) (n:Nat) (x:AV) (a b:Option AV) (k:ik n x a b K):ik n x a b K':=by
 unfold ik at *
 (repeat' split at k)<;>first|exact k.elim|simp_all
theorem Km {K K':AV→Prop}(hk:∀ v,K v→K' v) (x:AV) (k:lK x K):lK x K':=by
 unfold lK at *
 (repeat' split at k)<;>first|exact k.elim|simp_all
theorem P2 {K K':AV→Prop}(hk:∀ v,K v→K' v) (x:AV) (k:yg x K):yg x K':=by
 unfold yg at *
 (repeat' split at k)<;>first|exact k.elim|simp_all
theorem Px {K K':AV→Prop}(hk:∀ v,K v→K' v) (x:AV) (k:yK x K):yK x K':=by
 unfold yK at *
 (repeat' split at k)<;>first|exact k.elim|simp_all
theorem PL {K K':AV→Prop}(hk:∀ v,K v→K' v) (x:AV) (h:ae) (k:yQ x h K):yQ x h K':=by
 unfold yQ at *
 (repeat' split at k)<;>first|exact k.elim|simp_all
theorem HO {K K':AV→Prop}(hk:∀ v,K v→K' v) (i:Nat) (x:AV) (k:ie i x K):ie i x K':=by
 unfold ie at *
 (repeat' split at k)<;>first|exact k.elim|simp_all
theorem SG {K K':AV→Prop}(hk:∀ v,K v→K' v) (x y:AV) (k:DY x y K):DY x y K':=by
 unfold DY at *
 split at k
 ·exact hk _ k
 ·exact k.elim
theorem UB {K K':AV→Prop}(hk:∀ v,K v→K' v) (x y:AV) (k:DF x y K):DF x y K':=by
 unfold DF at *
 split at k
 ·exact hk _ k
 ·exact k.elim
theorem N1 {K K':AV→Prop}(hk:∀ v,K v→K' v) (z:List AV) (ps:List (Nat×Nat×AV)) (k:oh z ps K):oh z ps K':=by
 unfold oh at *
 (repeat' split at k)<;>first|exact k.elim|simp_all
theorem tr {K K':AV→Prop}(hk:∀ v,K v→K' v) (op:BinOp) (x y:AV) (k:ai op x y K):ai op x y K':=⟨Tw hk op x y k.out⟩
theorem zU {K K':AV→Prop}(hk:∀ v,K v→K' v) (op:BinOp) (x y:AV) (k:Je op x y K):Je op x y K':=⟨PE hk op x y k.out⟩
theorem zw {K K':AV→Prop}(hk:∀ v,K v→K' v) (op:BinOp) (x y:AV) (k:IR op x y K):IR op x y K':=⟨PQ hk op x y k.out⟩
theorem GU {K K':AV→Prop}(hk:∀ v,K v→K' v) (op:UnOp) (x:AV) (k:qUn op x K):qUn op x K':=⟨WO hk op x k.out⟩
theorem ud {K K':AV→Prop}(hk:∀ v,K v→K' v) (d:IntKind) (x:AV) (k:ci d x K):ci d x K':=⟨KQ hk d x k.out⟩
theorem uJ {K K':AV→Prop}(hk:∀ v,K v→K' v) (d:FloatKind) (x:AV) (k:qy d x K):qy d x K':=⟨Ku hk d x k.out⟩
theorem uC {K K':AV→Prop}(hk:∀ v,K v→K' v) (x:AV) (k:xw x K):xw x K':=⟨KW hk x k.out⟩
theorem Ci {K K':AV→Prop}(hk:∀ v,K v→K' v) (x:AV) (k:aF x K):aF x K':=⟨T7 hk x k.out⟩
theorem om {K K':AV→Prop}(hk:∀ v,K v→K' v) (n:Nat) (x:AV) (k:ab n x K):ab n x K':=⟨DN hk n x k.out⟩
theorem gI {K K':AV→Prop}(hk:∀ v,K v→K' v) (n:Nat) (x:AV) (h:ae) (k:aq n x h K):aq n x h K':=⟨Ny hk n x h k.out⟩
theorem gK {K K':AV→Prop}(hk:∀ v,K v→K' v) (x:AV) (h:ae) (k:ag x h K):ag x h K':=⟨Mx hk x h k.out⟩
theorem vx {K K':AV→Prop}(hk:∀ v,K v→K' v) (o n:Nat) (x:AV) (k:Cd o n x K):Cd o n x K':=⟨NU hk o n x k.out⟩
theorem vG {K K':AV→Prop}(hk:∀ v,K v→K' v) (o:Nat) (x:AV) (k:B1 o x K):B1 o x K':=⟨L8 hk o x k.out⟩
theorem uW {K K':AV→Prop}(hk:∀ v,K v→K' v) (x i:AV) (k:bk x i K):bk x i K':=⟨Lh hk x i k.out⟩
theorem ic {K K':AV→Prop}(hk:∀ v,K v→K' v) (n:Nat) (x i:AV) (k:ak n x i K):ak n x i K':=⟨DC hk n x i k.out⟩
theorem eN {K K':AV→Prop}(hk:∀ v,K v→K' v) (m n:Nat) (x i:AV) (k:ce m n x i K):ce m n x i K':=⟨BQ hk m n x i k.out⟩
theorem uG {K K':AV→Prop}(hk:∀ v,K v→K' v) (x:AV) (a b:Option AV) (k:bo x a b K):bo x a b K':=⟨JN hk x a b k.out⟩
theorem uj {K K':AV→Prop}(hk:∀ v,K v→K' v) (n:Nat) (x:AV) (a b:Option AV) (k:nk n x a b K):nk n x a b K':=⟨JX hk n x a b k.out⟩
theorem ub {K K':AV→Prop}(hk:∀ v,K v→K' v) (x:AV) (k:AK x K):AK x K':=⟨Km hk x k.out⟩
theorem zp {K K':AV→Prop}(hk:∀ v,K v→K' v) (x:AV) (k:bK x K):bK x K':=⟨P2 hk x k.out⟩
theorem yU {K K':AV→Prop}(hk:∀ v,K v→K' v) (x:AV) (k:aW x K):aW x K':=⟨Px hk x k.out⟩
theorem y5 {K K':AV→Prop}(hk:∀ v,K v→K' v) (x:AV) (h:ae) (k:H5 x h K):H5 x h K':=⟨PL hk x h k.out⟩
theorem rP {K K':AV→Prop}(hk:∀ v,K v→K' v) (i:Nat) (x:AV) (k:ao i x K):ao i x K':=⟨HO hk i x k.out⟩
theorem Cj {K K':AV→Prop}(hk:∀ v,K v→K' v) (x y:AV) (k:B0 x y K):B0 x y K':=⟨SG hk x y k.out⟩
theorem BN {K K':AV→Prop}(hk:∀ v,K v→K' v) (x y:AV) (k:Ey x y K):Ey x y K':=⟨UB hk x y k.out⟩
theorem xc {K K':AV→Prop}(hk:∀ v,K v→K' v) (z:List AV) (ps:List (Nat×Nat×AV)) (k:ax z ps K):ax z ps K':=⟨N1 hk z ps k.out⟩
theorem Cw {K K':AV→Prop}(hk:∀ v,K v→K' v) (n m:Nat) (vs:List AV) (k:gH n m vs K):gH n m vs K':=⟨k.1,hk _ k.2⟩
theorem M2 {K K':ae→Prop}(hk:∀ v,K v→K' v) (n:Nat) (x y:AV) (h:ae) (k:ur n x y h K):ur n x y h K':=by
 unfold ur at *
 (repeat' split at k)<;>first|exact k.elim|exact⟨k.1,hk _ k.2⟩
theorem JJ {K K':QT}(hk:∀ v h,K v h→K' v h) (n m:Nat) (x y:AV) (h:ae) (k:kF n m x y h K):kF n m x y h K':=by
 unfold kF at *
 split at k
 ·exact k.elim
 ·split at k
  ·refine⟨k.1,?_⟩
   have k2:=k.2
   split at k2
   ·rename_i h0;rw[if_pos h0];exact hk _ _ k2
   ·rename_i h0;rw[if_neg h0];exact hk _ _ k2
  ·split at k
   ·exact⟨k.1,hk _ _ k.2⟩
   ·exact k.elim
  ·exact k.elim
theorem MY {K K':QT}(hk:∀ v h,K v h→K' v h) (x:AV) (vs:List AV) (h:ae) (k:tR P x vs h K):tR P x vs h K':=by
 unfold tR at *
 split at k
 ·exact k.mono hk
 ·exact k.elim
theorem bm {K K':AV→Prop}(hk:∀ v,K v→K' v) (o:Option AV) (k:bT o K):bT o K':=by
 unfold bT at *;split at k
 ·exact hk _ k
 ·exact k.elim
theorem eR {K K':List AV→Prop}(hk:∀ v,K v→K' v) (o:Option (List AV)) (k:dT o K):dT o K':=by
 unfold dT at *;split at k
 ·exact hk _ k
 ·exact k.elim
theorem zo {K K':Option AV→Prop}(hk:∀ v,K v→K' v) (o:Option (Option AV)) (k:Aa o K):Aa o K':=by
 unfold Aa at *;split at k
 ·exact hk _ k
 ·exact k.elim
theorem dH {K K':AV→AV→Prop}(hk:∀ v u,K v u→K' v u) (a b:Option AV) (k:en a b K):en a b K':=bm (fun _ k=>bm (fun _ k=>hk _ _ k) _ k) _ k
theorem Be {v:AV}{X Y X' Y':Prop}(hx:X→X') (hy:Y→Y') (k:ifB v X Y):ifB v X' Y':=by
 unfold ifB at *;split at k
 ·exact hx k
 ·exact hy k
 ·exact k.elim
theorem wD {K K':AV→Prop}(hk:∀ v,K v→K' v) (t:TypeId) (x:AV) (k:vN t x K):vN t x K':=⟨hk _ k.out⟩
theorem mJ {K K':AV→Prop}(hk:∀ v,K v→K' v) (n m:Nat) (vs:List AV) (k:am n m vs K):am n m vs K':=⟨Cw hk _ _ _ k.out⟩
theorem M5 {K K':ae→Prop}(hk:∀ v,K v→K' v) (n:Nat) (x y:AV) (h:ae) (k:an n x y h K):an n x y h K':=⟨M2 hk _ _ _ _ k.out⟩
theorem J1 {K K':QT}(hk:∀ v h,K v h→K' v h) (n m:Nat) (x y:AV) (h:ae) (k:bl n m x y h K):bl n m x y h K':=⟨JJ hk _ _ _ _ _ k.out⟩
theorem S8 {env:Env}{h:ae}{o:Oper}{K K':QT}(hk:∀ v h,K v h→K' v h) (k:vP P env h o K):vP P env h o K':=by
 obtain⟨dst,op,ty,pos,after,guard⟩:=o
 have hk':∀ v,K v h→K' v h:=fun v=>hk v h
 cases op<;>simp only[vP]at k ⊢
 case move=>exact bm hk' _ k
 case assign=>exact bm hk' _ k
 case pick=>exact bm (fun _ k=>dH (fun _ _ k=>Be (hk' _) (hk' _) k) _ _ k) _ k
 case alloc=>unfold Y8 at *;(repeat' split at k)<;>first|exact k.elim|(rw[if_pos ‹_›];exact⟨hk _ _ k.out⟩)
 case box=>exact bm (fun _ k=>⟨⟨k.out.1,hk _ _ k.out.2⟩⟩) _ k
 case build=>refine eR (fun _ k=>?_) _ k;unfold wc at *;(repeat' split at k)<;>first|exact k.elim|(rw[if_pos ‹_›];exact xc hk' _ _ k)
 case buildSlice=>refine eR (fun _ k=>?_) _ k;unfold gL at *;(repeat' split at k)<;>first|exact k.elim|(rw[if_pos ‹_›];exact mJ hk' _ _ _ k)
 case load=>refine bm (fun _ k=>?_) _ k;unfold kr at *;(repeat' split at k)<;>first|exact k.elim|(rw[if_pos ‹_›];exact gI hk' _ _ _ k)|(rw[if_neg ‹_›];exact gK hk' _ _ k)
 case store=>refine dH (fun _ _ k=>?_) _ _ k;unfold LL at *;(repeat' split at k)<;>first|exact k.elim|exact M5 (fun _ k=>hk _ _ k) _ _ _ _ k
 case nilCheck=>exact bm (fun _ k=>Ci hk' _ k) _ k
 case binOp=>refine dH (fun _ _ k=>?_) _ _ k;unfold Mi at *;(repeat' split at k)<;>first|exact k.elim|exact tr hk' _ _ _ k|exact zU hk' _ _ _ k|exact zw hk' _ _ _ k
 case unOp=>exact bm (fun _ k=>GU hk' _ _ k) _ k
 case convert=>refine bm (fun _ k=>?_) _ k;unfold CX at *;(repeat' split at k)<;>first|exact k.elim|exact ud hk' _ _ k|exact uJ hk' _ _ k|exact uC hk' _ k
 case makeInterface=>refine bm (fun _ k=>?_) _ k;unfold BU at *;(repeat' split at k)<;>first|exact k.elim|exact wD hk' _ _ k
 case makeFunc=>exact eR (fun _ k=>eR (fun _ k=>hk _ _ k) _ k) _ k
 case slice=>refine bm (fun _ k=>zo (fun _ k=>zo (fun _ k=>zo (fun _ k=>?_) _ k) _ k) _ k) _ k;unfold mX at *;(repeat' split at k)<;>first|exact k.elim|exact uG hk' _ _ _ k|exact uj hk' _ _ _ _ k|exact ub hk' _ k
 case fieldAddr=>refine bm (fun _ k=>?_) _ k;unfold mR at *;(repeat' split at k)<;>first|exact k.elim|(rw[if_neg ‹_›];exact om hk' _ _ k)
 case field=>refine bm (fun _ k=>?_) _ k;unfold wG CZ at *;(repeat' split at k)<;>first|exact k.elim|(rw[if_pos ‹_›];exact vx hk' _ _ _ k)|(rw[if_neg ‹_›];exact vG hk' _ _ k)
 case indexAddr=>refine dH (fun _ _ k=>?_) _ _ k;unfold eo at *;(repeat' split at k)<;>first|exact k.elim|exact ic hk' _ _ _ k|exact eN hk' _ _ _ _ k
 case index=>refine dH (fun _ _ k=>?_) _ _ k;unfold CE at *;(repeat' split at k)<;>first|exact k.elim|exact uW hk' _ _ k
 case extract=>exact bm (fun _ k=>rP hk' _ _ k) _ k
 case call c=>
  refine eR (fun _ k=>?_) _ k
  split at k
  ·exact bm (fun _ k=>MY hk _ _ _ k) _ k
  ·split at k
   ·unfold CQ at *
    (repeat' split at k)<;>first|exact k.elim|exact zp hk' _ k|exact yU hk' _ k|exact y5 hk' _ _ k
   ·exact k.elim
  ·split at k
   ·unfold A3 at *
    (repeat' split at k)<;>first|exact k.elim|(rw[if_pos ‹_›];exact J1 hk _ _ _ _ _ k)
   ·exact k.elim
  ·split at k
   ·exact Cj hk' _ _ k
   ·exact k.elim
  ·split at k
   ·exact BN hk' _ _ k
   ·exact k.elim
  ·exact k.elim
end
end
section
variable [Tabs]
structure jo (d:TypeDesc) (ok:Bool) (z x key:AV) (h:ae) (K:AV→Prop):Prop where
 mk::(out:jC d ok z x key h K)
structure pA (x:AV) (h:ae) (K:AV→Prop):Prop where
 mk::(out:gg x h K)
structure Eh (op:BinOp) (x:AV) (K:AV→Prop):Prop where
 mk::(out:me op x K)
structure Eg (op:BinOp) (x:AV) (K:AV→Prop):Prop where
 mk::(out:lI op x K)
structure Eo (op:BinOp) (x:AV) (K:AV→Prop):Prop where
 mk::(out:mj op x K)
structure lQ (op:BinOp) (x:AV) (K:AV→Prop):Prop where
 mk::(out:nq op x K)
structure zD (x:AV) (h:ae) (K:AV→Prop):Prop where
 mk::(out:oo x h K)
structure YN (op:BinOp) (ds:List TypeDesc) (x y:AV) (K:AV→Prop):Prop where
 mk::(out:Fd op ds x y K)
structure ep (d:TypeDesc) (x key v:AV) (h:ae) (K:ae→Prop):Prop where
 mk::(out:g7 d x key v h K)
structure pG (d:TypeDesc) (z x key:AV) (h:ae) (K:QT):Prop where
 mk::(out:jw d z x key h K)
structure lf (x st v:AV) (h:ae) (K:ae→Prop):Prop where
 mk::(out:fJ x st v h K)
structure Bx (d:TypeDesc) (x key:AV) (h:ae) (K:ae→Prop):Prop where
 mk::(out:qw d x key h K)
structure qf (h:ae) (K:QT):Prop where
 mk::(out:tl h K)
structure tU (x:AV) (h:ae) (K:QT):Prop where
 mk::(out:rc x h K)
structure zP (x:AV) (h:ae) (K:QT):Prop where
 mk::(out:uZ x h K)
structure um (x:AV) (h:ae) (K:QT):Prop where
 mk::(out:pm x h K)
structure zW (x:AV) (h:ae) (K:QT):Prop where
 mk::(out:uL x h K)
structure pI (x:AV) (h:ae) (K:QT):Prop where
 mk::(out:jA x h K)
structure kL (b:Nat) (z l c:AV) (h:ae) (K:QT):Prop where
 mk::(out:gR b z l c h K)
theorem lg {K K':AV→Prop}(hk:∀ v,K v→K' v) (op:BinOp) (b:Bool) (k:rJ op b K):rJ op b K':=by
 unfold rJ at *
 split at k<;>first|exact k.elim|exact hk _ k
theorem J9 {K K':AV→Prop}(hk:∀ v,K v→K' v) (d:TypeDesc) (ok:Bool) (z x key:AV) (h:ae) (k:jC d ok z x key h K):jC d ok z x key h K':=by
 unfold jC at *
 (repeat' split at k)<;>first|exact k.elim|(simp_all;done)|(simp_all only [];exact hk _ k)
theorem uq {K K':AV→Prop}(hk:∀ v,K v→K' v) (d:TypeDesc) (ok:Bool) (z x key:AV) (h:ae) (k:jo d ok z x key h K):jo d ok z x key h K':=⟨J9 hk d ok z x key h k.out⟩
theorem Gv {K K':AV→Prop}(hk:∀ v,K v→K' v) (x:AV) (h:ae) (k:gg x h K):gg x h K':=by
 unfold gg at *
 (repeat' split at k)<;>first|exact k.elim|(simp_all;done)|(simp_all only [];exact hk _ k)
theorem qh {K K':AV→Prop}(hk:∀ v,K v→K' v) (x:AV) (h:ae) (k:pA x h K):pA x h K':=⟨Gv hk x h k.out⟩
theorem Kx {K K':AV→Prop}(hk:∀ v,K v→K' v) (op:BinOp) (x:AV) (k:me op x K):me op x K':=by
 unfold me at *
 (repeat' split at k)<;>first|exact k.elim|(simp_all;done)|(simp_all only [];exact hk _ k)
theorem uo {K K':AV→Prop}(hk:∀ v,K v→K' v) (op:BinOp) (x:AV) (k:Eh op x K):Eh op x K':=⟨Kx hk op x k.out⟩
theorem KG {K K':AV→Prop}(hk:∀ v,K v→K' v) (op:BinOp) (x:AV) (k:lI op x K):lI op x K':=by
 unfold lI at *
 (repeat' split at k)<;>first|exact k.elim|(simp_all;done)|(simp_all only [];exact hk _ k)
theorem tV {K K':AV→Prop}(hk:∀ v,K v→K' v) (op:BinOp) (x:AV) (k:Eg op x K):Eg op x K':=⟨KG hk op x k.out⟩
theorem Kv {K K':AV→Prop}(hk:∀ v,K v→K' v) (op:BinOp) (x:AV) (k:mj op x K):mj op x K':=by
 unfold mj at *
 (repeat' split at k)<;>first|exact k.elim|(simp_all;done)|(simp_all only [];exact hk _ k)
theorem uf {K K':AV→Prop}(hk:∀ v,K v→K' v) (op:BinOp) (x:AV) (k:Eo op x K):Eo op x K':=⟨Kv hk op x k.out⟩
theorem JS {K K':AV→Prop}(hk:∀ v,K v→K' v) (op:BinOp) (x:AV) (k:nq op x K):nq op x K':=by
 unfold nq at *
 split at k
 ·exact lg hk _ _ k
 ·split at k
  ·rename_i h0;rw[if_pos h0];exact⟨lg hk _ _ k.1,lg hk _ _ k.2⟩
  ·rename_i h0;rw[if_neg h0];exact lg hk _ _ k
 ·split at k
  ·rename_i h0;rw[if_pos h0];exact⟨lg hk _ _ k.1,lg hk _ _ k.2⟩
  ·rename_i h0;rw[if_neg h0];exact lg hk _ _ k
 ·exact k.elim
theorem A8 {K K':AV→Prop}(hk:∀ v,K v→K' v) (op:BinOp) (x:AV) (k:lQ op x K):lQ op x K':=⟨JS hk op x k.out⟩
theorem Ou {K K':AV→Prop}(hk:∀ v,K v→K' v) (x:AV) (h:ae) (k:oo x h K):oo x h K':=by
 unfold oo at *
 (repeat' split at k)<;>first|exact k.elim|(simp_all;done)|(simp_all only [];exact hk _ k)
theorem wl {K K':AV→Prop}(hk:∀ v,K v→K' v) (x:AV) (h:ae) (k:zD x h K):zD x h K':=⟨Ou hk x h k.out⟩
theorem TL {K K':AV→Prop}(hk:∀ v,K v→K' v) (op:BinOp) (ds:List TypeDesc) (x y:AV) (k:Fd op ds x y K):Fd op ds x y K':=by
 unfold Fd at *
 split at k
 ·split at k
  ·exact lg hk _ _ k
  ·exact k.elim
 ·exact k.elim
theorem CL {K K':AV→Prop}(hk:∀ v,K v→K' v) (op:BinOp) (ds:List TypeDesc) (x y:AV) (k:YN op ds x y K):YN op ds x y K':=⟨TL hk op ds x y k.out⟩
theorem DE {K K':ae→Prop}(hk:∀ v,K v→K' v) (d:TypeDesc) (x key v:AV) (h:ae) (k:g7 d x key v h K):g7 d x key v h K':=by
 unfold g7 at *
 (repeat' split at k)<;>first|exact k.elim|exact hk _ k|(rw[if_pos ‹_›];exact hk _ k)|(rw[if_neg ‹_›];exact hk _ k)|(simp_all;done)|(simp only[*,if_true];done)|(simp only[*,if_true];exact hk _ k)
theorem u6 {K K':ae→Prop}(hk:∀ v,K v→K' v) (d:TypeDesc) (x key v:AV) (h:ae) (k:ep d x key v h K):ep d x key v h K':=⟨DE hk d x key v h k.out⟩
theorem FK {K K':QT}(hk:∀ v h,K v h→K' v h) (d:TypeDesc) (z x key:AV) (h:ae) (k:jw d z x key h K):jw d z x key h K':=by
 unfold jw at *
 (repeat' split at k)<;>first|exact k.elim|exact hk _ _ k|(rw[if_pos ‹_›];exact hk _ _ k)|(rw[if_neg ‹_›];exact hk _ _ k)|(simp_all;done)|(simp only[*,if_true];done)|(simp only[*,if_true];exact hk _ _ k)
theorem Es {K K':QT}(hk:∀ v h,K v h→K' v h) (d:TypeDesc) (z x key:AV) (h:ae) (k:pG d z x key h K):pG d z x key h K':=⟨FK hk d z x key h k.out⟩
theorem B8 {K K':ae→Prop}(hk:∀ v,K v→K' v) (x st v:AV) (h:ae) (k:fJ x st v h K):fJ x st v h K':=by
 unfold fJ at *
 (repeat' split at k)<;>first|exact k.elim|exact hk _ k|(rw[if_pos ‹_›];exact hk _ k)|(rw[if_neg ‹_›];exact hk _ k)|(simp_all;done)|(simp only[*,if_true];done)|(simp only[*,if_true];exact hk _ k)
theorem BO {K K':ae→Prop}(hk:∀ v,K v→K' v) (x st v:AV) (h:ae) (k:lf x st v h K):lf x st v h K':=⟨B8 hk x st v h k.out⟩
theorem JG {K K':ae→Prop}(hk:∀ v,K v→K' v) (d:TypeDesc) (x key:AV) (h:ae) (k:qw d x key h K):qw d x key h K':=by
 unfold qw at *
 (repeat' split at k)<;>first|exact k.elim|exact hk _ k|(rw[if_pos ‹_›];exact hk _ k)|(rw[if_neg ‹_›];exact hk _ k)|(simp_all;done)|(simp only[*,if_true];done)|(simp only[*,if_true];exact hk _ k)
theorem Lq {K K':ae→Prop}(hk:∀ v,K v→K' v) (d:TypeDesc) (x key:AV) (h:ae) (k:Bx d x key h K):Bx d x key h K':=⟨JG hk d x key h k.out⟩
theorem HK {K K':QT}(hk:∀ v h,K v h→K' v h) (h:ae) (k:tl h K):tl h K':=by
 exact hk _ _ k
theorem HL {K K':QT}(hk:∀ v h,K v h→K' v h) (h:ae) (k:qf h K):qf h K':=⟨HK hk h k.out⟩
theorem Lf {K K':QT}(hk:∀ v h,K v h→K' v h) (x:AV) (h:ae) (k:rc x h K):rc x h K':=by
 unfold rc at *
 (repeat' split at k)<;>first|exact k.elim|exact hk _ _ k|(rw[if_pos ‹_›];exact hk _ _ k)|(rw[if_neg ‹_›];exact hk _ _ k)|(simp_all;done)|(simp only[*,if_true];done)|(simp only[*,if_true];exact hk _ _ k)
theorem LG {K K':QT}(hk:∀ v h,K v h→K' v h) (x:AV) (h:ae) (k:tU x h K):tU x h K':=⟨Lf hk x h k.out⟩
theorem Ob {K K':QT}(hk:∀ v h,K v h→K' v h) (x:AV) (h:ae) (k:uZ x h K):uZ x h K':=by
 unfold uZ at *
 (repeat' split at k)<;>first|exact k.elim|exact hk _ _ k|(rw[if_pos ‹_›];exact hk _ _ k)|(rw[if_neg ‹_›];exact hk _ _ k)|(simp_all;done)|(simp only[*,if_true];done)|(simp only[*,if_true];exact hk _ _ k)
theorem M1 {K K':QT}(hk:∀ v h,K v h→K' v h) (x:AV) (h:ae) (k:zP x h K):zP x h K':=⟨Ob hk x h k.out⟩
theorem JI {K K':QT}(hk:∀ v h,K v h→K' v h) (x:AV) (h:ae) (k:pm x h K):pm x h K':=by
 unfold pm at *
 (repeat' split at k)<;>first|exact k.elim|exact hk _ _ k|(rw[if_pos ‹_›];exact hk _ _ k)|(rw[if_neg ‹_›];exact hk _ _ k)|(simp_all;done)|(simp only[*,if_true];done)|(simp only[*,if_true];exact hk _ _ k)
theorem Lj {K K':QT}(hk:∀ v h,K v h→K' v h) (x:AV) (h:ae) (k:um x h K):um x h K':=⟨JI hk x h k.out⟩
theorem Nh {K K':QT}(hk:∀ v h,K v h→K' v h) (x:AV) (h:ae) (k:uL x h K):uL x h K':=by
 unfold uL at *
 split at k
 ·split at k
  ·exact hk _ _ k
  ·split at k
   ·exact⟨k.1,fun a=>hk _ _ (k.2.1 a),fun e he hs=>hk _ _ (k.2.2 e he hs)⟩
   ·exact k.elim
  ·exact k.elim
 ·exact k.elim
theorem ML {K K':QT}(hk:∀ v h,K v h→K' v h) (x:AV) (h:ae) (k:zW x h K):zW x h K':=⟨Nh hk x h k.out⟩
theorem Gr {K K':QT}(hk:∀ v h,K v h→K' v h) (x:AV) (h:ae) (k:jA x h K):jA x h K':=by
 unfold jA at *
 (repeat' split at k)<;>first|exact k.elim|exact hk _ _ k|(rw[if_pos ‹_›];exact hk _ _ k)|(rw[if_neg ‹_›];exact hk _ _ k)|(simp_all;done)|(simp only[*,if_true];done)|(simp only[*,if_true];exact hk _ _ k)
theorem Gy {K K':QT}(hk:∀ v h,K v h→K' v h) (x:AV) (h:ae) (k:pI x h K):pI x h K':=⟨Gr hk x h k.out⟩
theorem DR {K K':QT}(hk:∀ v h,K v h→K' v h) (b:Nat) (z l c:AV) (h:ae) (k:gR b z l c h K):gR b z l c h K':=by
 unfold gR at *
 split at k
 ·exact⟨k.1,hk _ _ k.2⟩
 ·exact k.elim
theorem D1 {K K':QT}(hk:∀ v h,K v h→K' v h) (b:Nat) (z l c:AV) (h:ae) (k:kL b z l c h K):kL b z l c h K':=⟨DR hk b z l c h k.out⟩
end
end Go.Proofs.YtbhphjpgjgigpaaGreatDoor.AL
