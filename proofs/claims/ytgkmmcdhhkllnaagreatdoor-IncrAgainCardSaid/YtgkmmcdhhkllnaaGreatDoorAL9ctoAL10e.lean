import Derived.Test.YtgkmmcdhhkllnaaGreatDoorAL7toAL8n
import Derived.Laws.IdiomStrings
import Derived.Laws.BytesArg
import Derived.Laws.MakeOwn
import Derived.Laws.StructEq
set_option linter.all false
set_option autoImplicit true
set_option relaxedAutoImplicit true
set_option maxRecDepth 100000
namespace Go.Proofs.YtgkmmcdhhkllnaaGreatDoor.AL
section
variable [Tabs]
section
variable {P:Program}{G:Gh}{h:ae}{w:World}
def yq:List AV→Option (List UInt8)
 | []=>some []
 | .lit (.int .u8 n)::r=>match yq r with|some l=>some (UInt8.ofNat n.toNat::l)|none=>none
 | _=>none
theorem D8:∀ {xs:List AV}{vs:List Value}{l:List UInt8},RepL G xs vs→yq xs=some l→∃ ns:List Int,vs=ns.map (Value.int .u8)∧l=ns.map fun n=>UInt8.ofNat n.toNat
 | [],vs,l,r,h=>by simp only[RepL]at r;simp only[yq,Option.some.injEq]at h;subst r;subst h;exact⟨[],rfl,rfl⟩
 | a::xs,vs,l,r,h=>by
   simp only[RepL]at r
   obtain⟨v,ws,rfl,h1,h2⟩:=r
   unfold yq at h
   split at h
   ·rename_i hn;cases hn
   ·rename_i n r' hn
    cases hn
    split at h
    ·rename_i l' hl
     cases h
     obtain⟨ns,rfl,rfl⟩:=D8 h2 hl
     simp only[Rep]at h1
     exact⟨n::ns,by simp[h1.1],by simp⟩
    ·cases h
   ·cases h
def zq:AV→Bool
 | .sl _ _ _ _=>true
 | .snap _ _=>true
 | .full _ _=>true
 | _=>false
def gQ (x:AV) (h:ae) (K:AV→Prop):Prop:=
 if zq x=true then (match cr h 1 x with
  | some (_,xs)=>(match yq xs with|some l=>K (S ⟨l.toArray⟩)|none=>False)
  | none=>False) else False
theorem UB {x:AV}{v:Value}(hx:Rep G x v) (hr:zq x=true):∃ a l c,v=.slice a l c:=by
 cases x<;>simp[zq]at hr<;>simp only[Rep]at hx
 ·obtain⟨b,o,c,ad,_,_,_,_,rfl⟩:=hx;exact⟨_,_,_,rfl⟩
 ·rcases hx with ⟨_,_,_,rfl⟩|⟨b,o,c,_,rfl,_⟩<;>exact⟨_,_,_,rfl⟩
 ·rcases hx with ⟨_,_,_,rfl⟩|⟨b,o,rfl,_⟩<;>exact⟨_,_,_,rfl⟩
theorem LM (s:Sim G h w) {src dst e:TypeId}(hs:P.underlying src=some (.slice e)) (he:P.underlying e=some (.int .u8)) (hd:P.underlying dst=some .string) {x:AV}{v:Value}(hx:Rep G x v) {K:AV→Prop}(k:gQ x h K):
  Yl P G w (convert src dst v) K:=by
 unfold gQ at k
 split at k
 ·rename_i hr
  split at k
  ·rename_i m xs hxs
   split at k
   ·rename_i l hl
    obtain⟨vs,q1,q2,q3,q4⟩:=np (P:=P) s hx hxs
    obtain⟨ns,rfl,rfl⟩:=D8 q2 hl
    obtain⟨a,len,c,rfl⟩:=UB hx hr
    refine⟨_,.string ⟨(ns.map fun n=>UInt8.ofNat n.toNat).toArray⟩,?_,by simp[Rep,Value.oneCell'],k⟩
    rw[run_convert_bytes_string w src dst e a len c hs he hd]
    have hlen:len=m:=by simpa [Builtin.lenOf] using q3
    subst hlen
    cases a with
    | none=>
      have:ns=[]:=by
       simp[Builtin.firstCells]at q4
       exact q4.symm ▸ rfl
      subst this
      simp[Conv.bytesToString];rfl
    | some a=>
      have hlc:(loadCells a len).run P w=.ok (ns.map (Value.int .u8)).toArray w:=by
       simpa [Builtin.firstCells] using q4
      rw[run_bytesToString w a len c ns hlc,foldl_push_bytes]
      congr 2
      apply ByteArray.ext
      simp[ByteArray.empty,ByteArray.emptyWithCapacity]
      rfl
   ·exact k.elim
  ·exact k.elim
 ·exact k.elim
def jW (x:AV) (h:ae) (K:QT):Prop:=
 match x with
 | .lit (.string s)=>K (.sl h.length 0 s.size 1) (h++[.cells (s.data.toList.map fun b=>.lit (.int .u8 b.toNat))])
 | _=>False
theorem Mq (s:Sim G h w) {src dst e:TypeId}(hs:P.underlying src=some .string) (hd:P.underlying dst=some (.slice e)) (he:P.underlying e=some (.int .u8)) {x:AV}{v:Value}(hx:Rep G x v) {K:QT}(k:jW x h K):
  Ye P G h w (convert src dst v) K:=by
 unfold jW at k
 split at k
 ·rename_i str
  simp only[Rep]at hx
  obtain⟨rfl,_⟩:=hx
  obtain⟨sd,evd⟩:=s.drawn (w.drawn+1)
  have hge:str.size≤grownCap w str.size 0 e:=by simp only[grownCap,Question.cut];omega
  have hrun:=run_bytes_of_string (P:=P) w src dst e str hs hd he
  generalize grownCap w str.size 0 e=c at hge hrun
  have hsz:(bytesRow str c).size=c:=by
   have:str.data.size=str.size:=rfl
   simp only[bytesRow,Array.size_append,Array.size_map,Array.size_replicate];omega
  generalize hC:bytesRow str c=C at hrun hsz
  have x:ObjAt (G.add h.length (w.drew.heap.size,0) c) (w.drew.alloc (.cells C e (C.size,C.size+1))) h.length (.cells (str.data.toList.map fun b=>.lit (.int .u8 b.toNat))):=by
   refine⟨w.heap.size,0,C,e,C.size,C.size+1,by simp[Gh.add],?_,by omega,?_,?_,?_⟩
   ·show (w.heap.push _)[w.heap.size]?=_
    simp
   ·simp only[Gh.add,if_true,List.length_map,Array.length_toList];exact hge
   ·simp only[Gh.add,if_true,hsz];omega
   ·intro j a ha
    rw[List.getElem?_map]at ha
    cases hj:str.data.toList[j]? with
    | none=>rw[hj]at ha;cases ha
    | some b=>
      rw[hj]at ha
      simp only[Option.map_some,Option.some.injEq]at ha
      subst ha
      have hlt:j<str.data.toList.length:=(List.getElem?_eq_some_iff.1 hj).1
      refine⟨.int .u8 b.toNat,?_,by simp[Rep,Value.oneCell']⟩
      rw[← hC,Nat.zero_add]
      unfold bytesRow
      rw[Array.getElem?_append_left (by simpa using hlt)]
      have:str.data[j]?=some b:=by simpa using hj
      simp[this]
  obtain⟨s',ev⟩:=mO sd (.cells C e (C.size,C.size+1)) _ c x
  refine⟨_,_,_,_,_,hrun,?_,k,s',evd.trans ev⟩
  simp only[Rep]
  exact⟨w.heap.size,0,c,0,by simp[Gh.add],by simp[Gh.add],hge,fun _=>rfl,rfl⟩
 ·exact k.elim
def ig (bytes:Nat) (z l c:AV) (h:ae) (K:QT):Prop:=
 match l,c with
 | .lit (.int _ l),.lit (.int _ c)=>(0≤l∧l≤c∧(bytes:Int)*c≤1099511627776∧c≤1099511627776)∧K (.sl h.length 0 l.toNat 1) (h++[.cells (List.replicate c.toNat z)])
 | _,_=>False
theorem IU (s:Sim G h w) {t e:TypeId}{i:TypeInfo}{z:Value}(ht:P.underlying t=some (.slice e)) (hi:P.info? e=some i) (hz:i.zero=some z) (h1:i.size=1) (hzo:z.oneCell'=true) {l c:AV}{lv cv:Value}(hl:Rep G l lv) (hc:Rep G c cv) {K:QT}
  (k:ig i.bytes (GL z) l c h K):Ye P G h w (Instr.makeSlice t lv cv) K:=by
 unfold ig at k
 split at k
 ·rename_i kl l' kc c'
  obtain⟨⟨q1,q2,q3,q4⟩,k⟩:=k
  simp only[Rep]at hl hc
  obtain⟨rfl,_⟩:=hl
  obtain⟨rfl,_⟩:=hc
  have hrun:=run_make (P:=P) w t e i z ht hi hz kl kc l' c' q1 q2 (by omega) (by omega)
  rw[h1,Nat.mul_one]at hrun
  have hcells:∀ j,j<c'.toNat→(madeCells z.cells c'.toNat)[j]?=some z:=fun j hj=>by
   simp[madeCells,hj,vB hzo,Nat.mod_one]
  have x:ObjAt (G.add h.length (w.heap.size,0) c'.toNat) (w.alloc (.cells (madeCells z.cells c'.toNat) e)) h.length (.cells (List.replicate c'.toNat (GL z))):=by
   refine⟨w.heap.size,0,madeCells z.cells c'.toNat,e,0,0,by simp[Gh.add],?_,by omega,?_,?_,?_⟩
   ·show (w.heap.push _)[w.heap.size]?=_
    simp
   ·simp[Gh.add]
   ·simp[Gh.add,size_madeCells]
   ·intro j a ha
    have hj:j<c'.toNat:=by have:=(List.getElem?_eq_some_iff.1 ha).1;simpa using this
    rw[List.getElem?_replicate,if_pos hj]at ha
    cases ha
    exact⟨z,by rw[Nat.zero_add];exact hcells j hj,GI _ z hzo⟩
  obtain⟨s',ev⟩:=mO s (.cells (madeCells z.cells c'.toNat) e) _ c'.toNat x
  refine⟨_,_,_,_,_,hrun,?_,k,s',ev⟩
  simp only[Rep]
  exact⟨w.heap.size,0,c'.toNat,0,by simp[Gh.add],by simp[Gh.add],by omega,fun _=>rfl,rfl⟩
 ·exact k.elim
def lR (op:BinOp) (x:AV) (K:AV→Prop):Prop:=
 match op,x with
 | .eql,.map _=>K (B false)
 | .neq,.map _=>K (B true)
 | .eql,.lit (.map none)=>K (B true)
 | .neq,.lit (.map none)=>K (B false)
 | _,_=>False
def lY (op:BinOp) (x:AV) (K:AV→Prop):Prop:=
 match op,x with
 | .eql,.iface _ _=>K (B false)
 | .neq,.iface _ _=>K (B true)
 | .eql,.lit .nilIface=>K (B true)
 | .neq,.lit .nilIface=>K (B false)
 | _,_=>False
def mR (op:BinOp) (x:AV) (K:AV→Prop):Prop:=
 match op,x with
 | .eql,.fn _ _ _=>K (B false)
 | .neq,.fn _ _ _=>K (B true)
 | .eql,.lit .nilFunc=>K (B true)
 | .neq,.lit .nilFunc=>K (B false)
 | _,_=>False
def sT (op:BinOp) (b:Bool) (K:AV→Prop):Prop:=match op with|.eql=>K (B b)|.neq=>K (B !b)|_=>False
def od (op:BinOp) (x:AV) (K:AV→Prop):Prop:=
 match x with
 | .sl _ _ _ _=>sT op false K
 | .full n _=>if n=0 then sT op true K∧sT op false K else sT op false K
 | .snap n _=>if n=0 then sT op true K∧sT op false K else sT op false K
 | _=>False
theorem aab (G:Gh) (b:Bool):Rep G (B b) (.bool b):=by simp[Rep,Value.oneCell']
theorem i6 {t:TypeId}{x y:Value}{b:Bool}(h:∀ d,(Op.equalIn (d+1) t x y).run P w=.ok b w):(Op.equal t x y).run P w=.ok b w:=h 9999
theorem iW {op:BinOp}{t:TypeId}{xo:Operand}{c x:Value}{b:Bool}{K:AV→Prop}(hg:eqGuard op t xo (.const c) x c=pure ())
  (h1:binOp .eql t x c=(do pure (.bool (← Op.equal t x c)))) (h2:binOp .neq t x c=(do pure (.bool (!(← Op.equal t x c))))) (he:(Op.equal t x c).run P w=.ok b w)
  (k:sT op b K):Yl P G w (do eqGuard op t xo (.const c) x c;binOp op t x c) K:=by
 rw[hg]
 cases op<;>simp only[sT]at k
 case eql=>exact⟨_,.bool b,by simp[h1,he],aab G _,k⟩
 case neq=>exact⟨_,.bool (!b),by simp[h2,he],aab G _,k⟩
theorem Qu {t kt et:TypeId}(ht:P.underlying t=some (.map kt et)) {op:BinOp}{xo:Operand}{x:AV}{v:Value}(hx:Rep G x v) {K:AV→Prop}(k:lR op x K):Yl P G w (do eqGuard op t xo (.const (.map none)) v (.map none);binOp op t v (.map none)) K:=by
 have hg:∀ r,eqGuard op t xo (.const (.map none)) (.map r) (.map none)=pure ():=fun r=>by unfold eqGuard;split<;>rfl
 unfold lR at k
 split at k<;>try simp only[Rep]at hx
 ·obtain⟨b,_,rfl⟩:=hx
  exact iW (b:=false) (hg _) rfl rfl (i6 fun d=>by simp[Op.equalIn,run_underlying ht]) k
 ·obtain⟨b,_,rfl⟩:=hx
  exact iW (b:=false) (hg _) rfl rfl (i6 fun d=>by simp[Op.equalIn,run_underlying ht]) k
 ·obtain⟨rfl,_⟩:=hx
  exact iW (b:=true) (hg _) rfl rfl (i6 fun d=>by simp[Op.equalIn,run_underlying ht]) k
 ·obtain⟨rfl,_⟩:=hx
  exact iW (b:=true) (hg _) rfl rfl (i6 fun d=>by simp[Op.equalIn,run_underlying ht]) k
 ·exact k.elim
theorem QN {t:TypeId}{ms:Array (String×TypeId)}(ht:P.underlying t=some (.interface ms)) {op:BinOp}{xo:Operand}{x:AV}{v:Value}(hx:Rep G x v) {K:AV→Prop}(k:lY op x K):Yl P G w (do eqGuard op t xo (.const .nilIface) v .nilIface;binOp op t v .nilIface) K:=by
 have hg:∀ u y,eqGuard op t xo (.const .nilIface) (.iface u y) .nilIface=pure ():=fun u y=>by unfold eqGuard;split<;>rfl
 have hg2:eqGuard op t xo (.const .nilIface) .nilIface .nilIface=pure ():=by
  unfold eqGuard
  split<;>first|rfl|(simp;done)
 unfold lY at k
 split at k<;>try simp only[Rep]at hx
 ·obtain⟨y,rfl,_⟩:=hx
  exact iW (b:=false) (hg _ _) rfl rfl (i6 fun d=>by simp[Op.equalIn,run_underlying ht]) k
 ·obtain⟨y,rfl,_⟩:=hx
  exact iW (b:=false) (hg _ _) rfl rfl (i6 fun d=>by simp[Op.equalIn,run_underlying ht]) k
 ·obtain⟨rfl,_⟩:=hx
  exact iW (b:=true) hg2 rfl rfl (i6 fun d=>by simp[Op.equalIn,run_underlying ht]) k
 ·obtain⟨rfl,_⟩:=hx
  exact iW (b:=true) hg2 rfl rfl (i6 fun d=>by simp[Op.equalIn,run_underlying ht]) k
 ·exact k.elim
theorem QP {t:TypeId}{a b:Array TypeId}{c:Bool}(ht:P.underlying t=some (.func a b c)) {op:BinOp}{xo:Operand}{x:AV}{v:Value}(hx:Rep G x v) {K:AV→Prop}(k:mR op x K):Yl P G w (do eqGuard op t xo (.const .nilFunc) v .nilFunc;binOp op t v .nilFunc) K:=by
 have hg:∀ x,eqGuard op t xo (.const .nilFunc) x .nilFunc=pure ():=fun x=>by unfold eqGuard;split<;>first|rfl|(split<;>first|rfl|simp_all)
 unfold mR at k
 split at k<;>try simp only[Rep]at hx
 ·obtain⟨y,z,rfl,_⟩:=hx
  exact iW (b:=false) (hg _) rfl rfl (i6 fun d=>by simp[Op.equalIn,run_underlying ht]) k
 ·obtain⟨y,z,rfl,_⟩:=hx
  exact iW (b:=false) (hg _) rfl rfl (i6 fun d=>by simp[Op.equalIn,run_underlying ht]) k
 ·obtain⟨rfl,_⟩:=hx
  exact iW (b:=true) (hg _) rfl rfl (i6 fun d=>by simp[Op.equalIn,run_underlying ht]) k
 ·obtain⟨rfl,_⟩:=hx
  exact iW (b:=true) (hg _) rfl rfl (i6 fun d=>by simp[Op.equalIn,run_underlying ht]) k
 ·exact k.elim
theorem QO {t e:TypeId}(ht:P.underlying t=some (.slice e)) {op:BinOp}{xo:Operand}{x:AV}{v:Value}(hx:Rep G x v) {K:AV→Prop}(k:od op x K):Yl P G w (do eqGuard op t xo (.const (.slice none 0 0)) v (.slice none 0 0);binOp op t v (.slice none 0 0)) K:=by
 have hg:∀ a b c,eqGuard op t xo (.const (.slice none 0 0)) (.slice a b c) (.slice none 0 0)=pure ():=fun a b c=>by unfold eqGuard;split<;>rfl
 have some_ok:∀ (a:Addr) (l c:Nat),sT op false K→Yl P G w (do eqGuard op t xo (.const (.slice none 0 0)) (.slice (some a) l c) (.slice none 0 0);binOp op t (.slice (some a) l c) (.slice none 0 0)) K:=fun a l c k=>
  iW (b:=false) (hg _ _ _) rfl rfl (i6 fun d=>by simp[Op.equalIn,run_underlying ht]) k
 have none_ok:sT op true K→Yl P G w (do eqGuard op t xo (.const (.slice none 0 0)) (.slice none 0 0) (.slice none 0 0);binOp op t (.slice none 0 0) (.slice none 0 0)) K:=fun k=>
  iW (b:=true) (hg _ _ _) rfl rfl (i6 fun d=>by simp[Op.equalIn,run_underlying ht]) k
 unfold od at k
 split at k<;>try simp only[Rep]at hx
 ·obtain⟨b,o,c,ad,_,_,_,_,rfl⟩:=hx;exact some_ok _ _ _ k
 ·rcases hx with ⟨rfl,_,za,rfl⟩|⟨b,o,rfl,_⟩
  ·rw[if_pos rfl]at k
   cases za with
   | none=>exact none_ok k.1
   | some za=>exact some_ok _ _ _ k.2
  ·refine some_ok _ _ _ ?_
   split at k
   ·exact k.2
   ·exact k
 ·rcases hx with ⟨rfl,_,za,rfl⟩|⟨b,o,c,_,rfl,_⟩
  ·rw[if_pos rfl]at k
   cases za with
   | none=>exact none_ok k.1
   | some za=>exact some_ok _ _ _ k.2
  ·refine some_ok _ _ _ ?_
   split at k
   ·exact k.2
   ·exact k
 ·exact k.elim
end
end
section
variable [Tabs]
section
variable {P:Program}{G:Gh}{h:ae}{w:World}
def aa2:TypeDesc→AV→AV→Option Bool
 | .bool,.lit (.bool a),.lit (.bool b)=>some (a==b)
 | .int _,.lit (.int j a),.lit (.int k b)=>if j=k then some (a==b) else none
 | .string,.lit (.string a),.lit (.string b)=>some (a==b)
 | _,_,_=>none
def ym:List TypeDesc→List AV→List AV→Option Bool
 | [],[],[]=>some true
 | d::ds,a::az,b::bs=>match aa2 d a b with
   | some x=>(match ym ds az bs with|some y=>some (x&&y)|none=>none)
   | none=>none
 | _,_,_=>none
def GB (op:BinOp) (ds:List TypeDesc) (x y:AV) (K:AV→Prop):Prop:=
 match x,y with
 | .agg az,.agg bs=>(match ym ds az bs with|some b=>sT op b K|none=>False)
 | _,_=>False
def xS (P:Program):List Field→Nat→Option (List TypeDesc)
 | [],_=>some []
 | f :: fs, k => if (f.offset == k && f.name != "_") = true then (match P.underlying f.type with
   | some .bool=>(xS P fs (k+1)).map (.bool::·)
   | some (.int j)=>(xS P fs (k+1)).map (.int j::·)
   | some .string=>(xS P fs (k+1)).map (.string::·)
   | _=>none) else none
theorem aac {d:TypeDesc}{a b:AV}{x y:Value}{r:Bool}(hx:Rep G a x) (hy:Rep G b y) (h:aa2 d a b=some r) {t:TypeId}(ht:P.underlying t=some d) (n:Nat):(Op.equalIn (n+1) t x y).run P w=.ok r w:=by
 unfold aa2 at h
 split at h
 ·simp only[Rep]at hx hy
  obtain⟨rfl,_⟩:=hx
  obtain⟨rfl,_⟩:=hy
  cases h
  simp[Op.equalIn,run_underlying ht]
 ·simp only[Rep]at hx hy
  obtain⟨rfl,_⟩:=hx
  obtain⟨rfl,_⟩:=hy
  split at h
  ·rename_i hk
   cases h
   subst hk
   simp[Op.equalIn,run_underlying ht]
  ·cases h
 ·simp only[Rep]at hx hy
  obtain⟨rfl,_⟩:=hx
  obtain⟨rfl,_⟩:=hy
  cases h
  simp[Op.equalIn,run_underlying ht]
 ·cases h
theorem PI {t:TypeId}{d:TypeDesc}(ht:P.underlying t=some d) (hd:l6 d=false) {cs:Array Value}{k:Nat}{v:Value}(h:cs[k]?=some v):(part t cs k).run P w=.ok v w:=by
 simp[part,tD ht,hd,h]
theorem FD (n:Nat):∀ (fs:List Field) (k:Nat) (ds:List TypeDesc) (az bs:List AV) (xs ys:Array Value) (r:Bool),xS P fs k=some ds→RepL G az (xs.toList.drop k)→RepL G bs (ys.toList.drop k)→ym ds az bs=some r→
  (Op.eqFields (n+1) xs ys fs).run P w=.ok r w
 | [],k,ds,az,bs,xs,ys,r,hf,hx,hy,h=>by
   simp only[xS,Option.some.injEq]at hf
   subst hf
   unfold ym at h
   split at h
   ·cases h;simp[Op.eqFields]
   ·rename_i hn;cases hn
   ·cases h
 | f::fs,k,ds,az,bs,xs,ys,r,hf,hx,hy,h=>by
   simp only[xS]at hf
   split at hf
   ·rename_i hc
    simp only[Bool.and_eq_true,beq_iff_eq,bne_iff_ne,ne_eq]at hc
    have key:∀ (d:TypeDesc),P.underlying f.type=some d→l6 d=false→(xS P fs (k+1)).map (d::·)=some ds→(Op.eqFields (n+1) xs ys (f::fs)).run P w=.ok r w:=by
     intro d hd hag hm
     cases hfs:xS P fs (k+1) with
     | none=>rw[hfs]at hm;cases hm
     | some ds'=>
       rw[hfs]at hm
       simp only[Option.map_some,Option.some.injEq]at hm
       subst hm
       unfold ym at h
       split at h
       ·rename_i hn;cases hn
       ·rename_i d' ds2 a az' b bs' hn
        cases hn
        split at h
        ·rename_i x hx1
         split at h
         ·rename_i y hy1
          cases h
          simp only[RepL]at hx hy
          obtain⟨v,vs,e1,r1,r2⟩:=hx
          obtain⟨u,us,e2,r3,r4⟩:=hy
          have hv:xs[k]?=some v:=by have:=congrArg (·[0]?) e1;simpa using this
          have hu:ys[k]?=some u:=by have:=congrArg (·[0]?) e2;simpa using this
          have hvs:vs=xs.toList.drop (k+1):=by have:=congrArg List.tail e1;simpa using this.symm
          have hus:us=ys.toList.drop (k+1):=by have:=congrArg List.tail e2;simpa using this.symm
          have ih:=FD n fs (k+1) ds' az' bs' xs ys y hfs (hvs ▸ r2) (hus ▸ r4) hy1
          simp only[Op.eqFields,Sem.run_bind,Sem.run_ite,hc.1]
          rw[if_pos (by simpa using hc.2)]
          simp only[PI hd hag hv,PI hd hag hu,Result.andThen_ok,aac r1 r3 hx1 hd n]
          cases x
          ·simp
          ·simpa using ih
         ·cases h
        ·cases h
       ·cases h
    split at hf
    ·exact key _ ‹_› rfl hf
    ·exact key _ ‹_› rfl hf
    ·exact key _ ‹_› rfl hf
    ·cases hf
   ·cases hf
theorem ZC {t:TypeId}{fs:Array Field}{ds:List TypeDesc}(ht:P.underlying t=some (.struct fs)) (hf:xS P fs.toList 0=some ds) (hp:P.stoodInHeld t=false) (hm:P.eqGuardType P.depth t=false) {op:BinOp}{xo yo:Operand}{x y:AV}{a b:Value}(hx:Rep G x a) (hy:Rep G y b)
  {K:AV→Prop} (k:GB op ds x y K):Yl P G w (do eqGuard op t xo yo a b;binOp op t a b) K:=by
 unfold GB at k
 split at k
 ·rename_i az bs
  split at k
  ·rename_i r hr
   simp only[Rep]at hx hy
   obtain⟨vs,rfl,hx⟩:=hx
   obtain⟨us,rfl,hy⟩:=hy
   have hfo:P.fieldsOf t=fs:=by simp[Program.fieldsOf,ht]
   have he:∀ n,(Op.equalIn (n+2) t (.agg vs.toArray) (.agg us.toArray)).run P w=.ok r w:=fun n=>by
    rw[run_equalIn_struct w (n+1) t _ _ (by rw[hfo];exact ht) hp,hfo]
    exact FD n _ 0 ds az bs _ _ r hf (by simpa using hx) (by simpa using hy) hr
   have hg:=run_eqGuard_agg (P:=P) w op t xo yo vs.toArray us.toArray hm
   cases op<;>simp only[sT]at k
   case eql=>exact⟨_,.bool r,by rw[Sem.run_bind,hg,Result.andThen_ok,run_eql_struct,he 9998];rfl,aab G _,k⟩
   case neq=>exact⟨_,.bool (!r),by rw[Sem.run_bind,hg,Result.andThen_ok,run_neq_struct,he 9998];rfl,aab G _,k⟩
  ·exact k.elim
 ·exact k.elim
end
end
section
variable [Tabs]
def zC (v:AV) (K:AV→Prop):Prop:=match v with|.lit (.string s)=>K (I s.size)|_=>False
def zD (v:AV) (K:AV→Prop):Prop:=match v with|.sl _ _ len _=>K (I len)|.snap n _=>K (I n)|.full n _=>K (I n)|_=>False
def y6 (v:AV) (h:ae) (K:AV→Prop):Prop:=match v with|.map i=>(match h[i]? with|some (.amap es _)=>K (I es.length)|_=>False)|_=>False
def aca (v:AV) (h:ae) (K:QT):Prop:=v.isTup=false∧XS v.cells h K
structure ai (op:BinOp) (x y:AV) (K:AV→Prop):Prop where
 mk::(out:Ez op x y K)
structure Kz (op:BinOp) (x y:AV) (K:AV→Prop):Prop where
 mk::(out:xi op x y K)
structure DH (op:BinOp) (x y:AV) (K:AV→Prop):Prop where
 mk::(out:wd op x y K)
structure qUn (op:UnOp) (x:AV) (K:AV→Prop):Prop where
 mk::(out:pUn op x K)
structure ci (d:IntKind) (x:AV) (K:AV→Prop):Prop where
 mk::(out:mN d x K)
structure rD (d:FloatKind) (x:AV) (K:AV→Prop):Prop where
 mk::(out:mU d x K)
structure yr (x:AV) (K:AV→Prop):Prop where
 mk::(out:lV x K)
structure aE (x:AV) (K:AV→Prop):Prop where
 mk::(out:IR x K)
structure ab (n:Nat) (x:AV) (K:AV→Prop):Prop where
 mk::(out:eZ n x K)
structure aw (n:Nat) (x:AV) (h:ae) (K:AV→Prop):Prop where
 mk::(out:nM n x h K)
structure ag (x:AV) (h:ae) (K:AV→Prop):Prop where
 mk::(out:mc x h K)
structure Dt (o n:Nat) (x:AV) (K:AV→Prop):Prop where
 mk::(out:qU o n x K)
structure Dv (o:Nat) (x:AV) (K:AV→Prop):Prop where
 mk::(out:qx o x K)
structure bj (x i:AV) (K:AV→Prop):Prop where
 mk::(out:k8 x i K)
structure am (n:Nat) (x i:AV) (K:AV→Prop):Prop where
 mk::(out:dp n x i K)
structure cd (m n:Nat) (x i:AV) (K:AV→Prop):Prop where
 mk::(out:cR m n x i K)
structure bm (x:AV) (a b:Option AV) (K:AV→Prop):Prop where
 mk::(out:iX x a b K)
structure ir (n:Nat) (x:AV) (a b:Option AV) (K:AV→Prop):Prop where
 mk::(out:ij n x a b K)
structure Bn (x:AV) (K:AV→Prop):Prop where
 mk::(out:ma x K)
structure bH (x:AV) (K:AV→Prop):Prop where
 mk::(out:zC x K)
structure aY (x:AV) (K:AV→Prop):Prop where
 mk::(out:zD x K)
structure JK (x:AV) (h:ae) (K:AV→Prop):Prop where
 mk::(out:y6 x h K)
structure an (i:Nat) (x:AV) (K:AV→Prop):Prop where
 mk::(out:iA i x K)
structure Co (x y:AV) (K:AV→Prop):Prop where
 mk::(out:EV x y K)
structure F0 (x y:AV) (K:AV→Prop):Prop where
 mk::(out:Et x y K)
structure wB (t:TypeId) (x:AV) (K:AV→Prop):Prop where
 mk::(out:CO t x K)
structure ax (z:List AV) (ps:List (Nat×Nat×AV)) (K:AV→Prop):Prop where
 mk::(out:pa z ps K)
structure ao (n m:Nat) (vs:List AV) (K:AV→Prop):Prop where
 mk::(out:g9 n m vs K)
structure df (cs:List AV) (h:ae) (K:QT):Prop where
 mk::(out:XS cs h K)
structure gk (v:AV) (h:ae) (K:QT):Prop where
 mk::(out:aca v h K)
structure ak (n:Nat) (x y:AV) (h:ae) (K:ae→Prop):Prop where
 mk::(out:ux n x y h K)
structure bc (n m:Nat) (x y:AV) (h:ae) (K:QT):Prop where
 mk::(out:eb n m x y h K)
end
section
variable [Tabs]
section
variable {P:Program}{G:Gh}{h:ae}{w:World}
def UpV (P:Program) (N:Value→World→Prop):Result Next→Prop
 | .ok (.value v) w'=>N v w'
 | .ok .skip w'=>N undef w'
 | .ok (.enter f args) w'=>Calls P f args w' fun e w''=>∃ v,e=.returned v∧N v w''
 | _=>False
theorem DM {o:Oper}{a:Act}{next:Act→World→Prop}{Q:Exit→Act→World→Prop}{r:Result Next}(k:UpV P (fun v w'=>next (a.put o.dst v) w') r):o.upon P a next Q r:=by
 unfold UpV at k
 split at k
 ·exact k
 ·exact k
 ·refine Calls.mono k fun e w'' ⟨v,he,hn⟩=>?_
  subst he
  exact hn
 ·exact k.elim
def N0 (G:Gh) (h:ae) (w:World) (K:QT) (v:Value) (w':World):Prop:=∃ r h' G',Rep G' r v∧K r h'∧Sim G' h' w'∧Evo G h w G' h' w'
theorem bd (s:Sim G h w) {m:Sem Value}{K:QT}(k:Yl P G w m fun r=>K r h):UpV P (N0 G h w K) ((do pure (.value (← m)):Sem Next).run P w):=by
 obtain⟨r,v,h1,h2,h3⟩:=k
 simp only[Sem.run_bind,h1,Result.andThen_ok,Sem.run_pure]
 exact⟨r,h,G,h2,h3,s,Evo.refl _ _ _⟩
theorem gG {m:Sem Value}{K:QT}(k:Ye P G h w m K):UpV P (N0 G h w K) ((do pure (.value (← m)):Sem Next).run P w):=by
 obtain⟨r,v,h',G',w',h1,h2,h3,h4,h5⟩:=k
 simp only[Sem.run_bind,h1,Result.andThen_ok,Sem.run_pure]
 exact⟨r,h',G',h2,h3,h4,h5⟩
def Fu (P : Program) (f : FuncId) : Prop := ∃ fn, P.funcs[f]? = some fn ∧ (fn.name == "runtime.NumGoroutine") = false ∧ fn.body.isNone = false
structure ACall (P:Program) (f:FuncId) (args:List AV) (h:ae) (K:QT):Prop where
 body:Fu P f
 calls:ACalls P f args h K
def uU (P:Program) (v:AV) (args:List AV) (h:ae) (K:QT):Prop:=
 match v with
 | .fn (.func f) fi ca=>ACall P f (fi++args++ca) h K
 | _=>False
theorem ACall.mono {f:FuncId}{args:List AV}{K K':QT}(c:ACall P f args h K) (hk:∀ r h',K r h'→K' r h'):ACall P f args h K':=⟨c.1,c.2.mono hk⟩
theorem aas (s:Sim G h w) {v:AV}{args:List AV}{x:Value}{ys:Array Value}{K:QT}(hx:Rep G v x) (hy:RepL G args ys.toList) (k:uU P v args h K):
  UpV P (N0 G h w K) ((do let d ← Deferred.ofValue x ys;invoke d.target d.args:Sem Next).run P w):=by
 unfold uU at k
 split at k
 ·rename_i f fi ca
  obtain⟨⟨fn,h1,h2,h3⟩,k⟩:=k
  simp only[Rep]at hx
  obtain⟨vs,ws,rfl,hv,hw⟩:=hx
  simp only[Deferred.ofValue,Sem.run_bind,Sem.run_pure,Result.andThen_ok,invoke,callFunc,run_program,h1,h2,h3,Bool.false_eq_true,if_false]
  have:=k G w _ s ((hv.append hy).append hw)
  have e:(vs++ys.toList++ws).toArray=vs.toArray++ys++ws.toArray:=by
   apply Array.toList_inj.1;simp
  rw[e]at this
  exact this.mono fun e w'' ⟨r,v,h',G',a,b,c,d,ev⟩=>⟨v,a,r,h',G',b,c,d,ev⟩
 ·exact k.elim
def ez (a b:Option AV) (K:AV→AV→Prop):Prop:=bV a fun x=>bV b fun y=>K x y
def dX (a:Option (List AV)) (K:List AV→Prop):Prop:=match a with|some l=>K l|none=>False
def EF (env:Env):Option Operand→Option (Option AV)
 | none=>some none
 | some x=>match opv env x with|some v=>some (some v)|none=>none
def B1 (a:Option (Option AV)) (K:Option AV→Prop):Prop:=match a with|some l=>K l|none=>False
def xy (P:Program) (t:TypeId) (is:List Nat) (vs:List AV) (K:AV→Prop):Prop:=
 match P.underlying t,P.info? t with
 | some (.struct fs),some i=>(match i.zero,jB P fs.toList with
   | some z,some l=>if okV z then (match Av (fun j=>l[j]?) (is.zip vs) with|some qs=>ax (ofV z).cells qs K|none=>False) else False
   | _,_=>False)
 | _,_=>False
def g6 (P:Program) (t:TypeId) (n:Nat) (is:List Nat) (vs:List AV) (K:AV→Prop):Prop:=
 match P.underlying t with
 | some (.slice e)=>(match P.info? e with
   | some i=>(match i.zero with
     | some _=>if (is==List.range n&&decide (n*i.size≤16777216))=true then ao n i.size vs K else False
     | none=>False)
   | none=>False)
 | _=>False
def kL (P:Program) (t:TypeId) (v:AV) (h:ae) (K:AV→Prop):Prop:=
 match P.underlying t,P.info? t with
 | some d,some i=>if l6 d=true then aw i.size v h K else ag v h K
 | _,_=>False
def OO (P:Program) (op:BinOp) (t:TypeId) (x y:AV) (K:AV→Prop):Prop:=
 match P.underlying t with
 | some .bool=>Kz op x y K
 | some (.pointer _)=>DH op x y K
 | some (.int _)=>ai op x y K
 | some .string=>ai op x y K
 | some (.float _)=>ai op x y K
 | _=>False
def DV (P:Program) (s d:TypeId) (x:AV) (K:AV→Prop):Prop:=
 match P.underlying s,P.underlying d with
 | some (.int _),some (.int k)=>ci k x K
 | some (.int _),some (.float k)=>rD k x K
 | some .string,some .string=>yr x K
 | _,_=>False
def nq (P:Program) (t:TypeId) (x:AV) (lo hi mx:Option AV) (K:AV→Prop):Prop:=
 match P.underlying t,mx with
 | some .string,none=>bm x lo hi K
 | some (.slice e),none=>(match P.info? e with|some i=>ir i.size x lo hi K|none=>False)
 | some (.slice e),some (.lit (.int _ 0))=>(match P.info? e,lo,hi with|some _,none,some (.lit (.int _ 0))=>Bn x K|_,_,_=>False)
 | _,_=>False
def nP (P:Program) (t:TypeId) (x:AV) (f:Nat) (K:AV→Prop):Prop:=
 match P.underlying t with
 | some (.struct fs)=>(match fs[f]? with
   | some fd=>(match P.info? fd.type with|some i=>if i.size=0 then False else ab fd.offset x K|none=>False)
   | none=>False)
 | _=>False
def D7 (P:Program) (t:TypeId) (off:Nat) (x:AV) (K:AV→Prop):Prop:=
 match P.underlying t,P.info? t with
 | some d,some i=>if l6 d=true then Dt off i.size x K else Dv off x K
 | _,_=>False
def xX (P:Program) (t:TypeId) (x:AV) (f:Nat) (K:AV→Prop):Prop:=
 match P.underlying t with
 | some (.struct fs)=>(match fs[f]? with|some fd=>D7 P fd.type fd.offset x K|none=>False)
 | _=>False
def ew (P:Program) (t:TypeId) (x i:AV) (K:AV→Prop):Prop:=
 match P.underlying t with
 | some (.slice e)=>(match P.info? e with|some ei=>am ei.size x i K|none=>False)
 | some (.array n e)=>(match P.info? e with|some ei=>cd n ei.size x i K|none=>False)
 | _=>False
def C6 (P:Program) (t:TypeId) (x i:AV) (K:AV→Prop):Prop:=
 match P.underlying t with
 | some .string=>bj x i K
 | _=>False
def Di (P:Program) (t:TypeId) (v:AV) (h:ae) (K:AV→Prop):Prop:=
 match P.underlying t with
 | some .string=>bH v K
 | some (.slice _)=>aY v K
 | some (.map _ _)=>JK v h K
 | _=>False
theorem Zw {t:TypeId}{v:AV}{K:AV→Prop}(k:Di P t v h K):∃ d,P.underlying t=some d∧H2 d v=true∧aaX v h K:=by
 unfold Di at k
 split at k
 ·refine⟨_,‹_›,?_⟩
  replace k:=k.out;unfold zC at k;split at k
  ·exact⟨rfl,k⟩
  ·exact k.elim
 ·refine⟨_,‹_›,?_⟩
  replace k:=k.out;unfold zD at k;split at k
  ·exact⟨rfl,k⟩
  ·exact⟨rfl,k⟩
  ·exact⟨rfl,k⟩
  ·exact k.elim
 ·refine⟨_,‹_›,?_⟩
  replace k:=k.out;unfold y6 at k;split at k
  ·exact⟨rfl,k⟩
  ·exact k.elim
 ·exact k.elim
def X5 (i:TypeInfo) (d2:TypeDesc):Bool:=
 (match i.zero with|some z=>z.cells.size==i.size|none=>false)&&decide (0<i.bytes)&&(match d2 with|.int _=>false|_=>true)
def BM (P:Program) (t t2:TypeId) (x y:AV) (h:ae) (K:QT):Prop:=
 match P.underlying t,P.underlying t2 with
 | some (.slice e),some d2=>(match P.info? e with
   | some i=>if X5 i d2=true then bc i.size i.bytes x y h K else False
   | none=>False)
 | _,_=>False
def ZF (P:Program) (t:TypeId) (h:ae) (K:QT):Prop:=
 match P.info? t with
 | some i=>(match i.zero with|some z=>if okV z=true then df (ofV z).cells h K else False|none=>False)
 | none=>False
def Md (P:Program) (t:TypeId) (x u:AV) (h:ae) (K:ae→Prop):Prop:=
 match P.info? t with
 | some i=>ak i.size x u h K
 | none=>False
def CU (P:Program) (t:TypeId) (x:AV) (K:AV→Prop):Prop:=
 match P.underlying t with
 | some (.interface _)=>False
 | some _=>wB t x K
 | none=>False
def xe (P:Program) (env:Env) (h:ae) (o:Oper) (K:QT):Prop:=
 match o.op with
 | .move x=>bV (opv env x) fun v=>K v h
 | .assign x=>bV (opv env x) fun v=>K v h
 | .pick c a b=>bV (opv env c) fun cv=>ez (opv env a) (opv env b) fun av bv=>ifB cv (K av h) (K bv h)
 | .alloc e=>ZF P e h K
 | .box _ x=>bV (opv env x) fun v=>gk v h K
 | .build t ps=>dX (kS env (ps.toList.map (·.2))) fun vs=>xy P t (ps.toList.map (·.1)) vs fun r=>K r h
 | .buildSlice t n ps=>dX (kS env (ps.toList.map (·.2))) fun vs=>g6 P t n (ps.toList.map (·.1)) vs fun r=>K r h
 | .load t x=>bV (opv env x) fun v=>kL P t v h fun r=>K r h
 | .store t x u=>ez (opv env x) (opv env u) fun v y=>Md P t v y h fun h'=>K (.tup []) h'
 | .nilCheck x=>bV (opv env x) fun v=>aE v fun r=>K r h
 | .binOp op t x y _=>ez (opv env x) (opv env y) fun a b=>OO P op t a b fun r=>K r h
 | .unOp op _ x=>bV (opv env x) fun a=>qUn op a fun r=>K r h
 | .convert s d x=>bV (opv env x) fun a=>DV P s d a fun r=>K r h
 | .makeInterface t x=>bV (opv env x) fun a=>CU P t a fun r=>K r h
 | .makeFunc f fi ca=>dX (kS env fi.toList) fun vs=>dX (kS env ca.toList) fun ws=>K (.fn f vs ws) h
 | .slice t x lo hi mx=>bV (opv env x) fun a=>B1 (EF env lo) fun l=>B1 (EF env hi) fun u=>B1 (EF env mx) fun m=>nq P t a l u m fun r=>K r h
 | .fieldAddr t x f=>bV (opv env x) fun a=>nP P t a f fun r=>K r h
 | .field t x f=>bV (opv env x) fun a=>xX P t a f fun r=>K r h
 | .indexAddr t x i=>ez (opv env x) (opv env i) fun a b=>ew P t a b fun r=>K r h
 | .index t x i=>ez (opv env x) (opv env i) fun a b=>C6 P t a b fun r=>K r h
 | .extract x i=>bV (opv env x) fun a=>an i a fun r=>K r h
 | .call c=>dX (kS env c.args.toList) fun vs=>(match c.callee with
   | .value f=>bV (opv env f) fun v=>uU P v vs h K
   | .builtin .len=>(match vs,c.argTypes.toList with|[v],[t]=>Di P t v h fun r=>K r h|_,_=>False)
   | .builtin .append=>(match vs,c.argTypes.toList with|[v,u],[t,t2]=>BM P t t2 v u h K|_,_=>False)
   | .builtin .max=>(match vs with|[v,u]=>Co v u fun r=>K r h|_=>False)
   | .builtin .min=>(match vs with|[v,u]=>F0 v u fun r=>K r h|_=>False)
   | _=>False)
 | _=>False
theorem aG {o:Option AV}{K:AV→Prop}(k:bV o K):∃ v,o=some v∧K v:=by
 unfold bV at k;split at k
 ·exact⟨_,rfl,k⟩
 ·exact k.elim
theorem dn {o:Option (List AV)}{K:List AV→Prop}(k:dX o K):∃ v,o=some v∧K v:=by
 unfold dX at k;split at k
 ·exact⟨_,rfl,k⟩
 ·exact k.elim
theorem tV {o:Option (Option AV)}{K:Option AV→Prop}(k:B1 o K):∃ v,o=some v∧K v:=by
 unfold B1 at k;split at k
 ·exact⟨_,rfl,k⟩
 ·exact k.elim
theorem GV {env:Env}{a:Act}(r:EnvRep G env a.tmps) {x:Option Operand}{v:Option AV}(h:EF env x=some v):nk G v (x.map a.eval):=by
 cases x with
 | none=>simp only[EF,Option.some.injEq]at h;subst h;trivial
 | some x=>
   simp only[EF]at h
   split at h
   ·rename_i u hu
    cases h
    exact aO r hu
   ·cases h
theorem RepL.two {x y:AV}{l:List Value}(r:RepL G [x,y] l):∃ a b,l=[a,b]∧Rep G x a∧Rep G y b:=by
 simp only[RepL]at r
 obtain⟨a,_,rfl,h1,b,_,rfl,h2,rfl⟩:=r
 exact⟨a,b,rfl,h1,h2⟩
theorem RepL.single {x:AV}{l:List Value}(r:RepL G [x] l):∃ a,l=[a]∧Rep G x a:=by
 simp only[RepL]at r
 obtain⟨a,_,rfl,h1,rfl⟩:=r
 exact⟨a,rfl,h1⟩
theorem Zm (s:Sim G h w) {env:Env}{a:Act}(r:EnvRep G env a.tmps) {o:Oper}{K:QT}(k:xe P env h o K):UpV P (N0 G h w K) ((execOp a.eval o).run P w):=by
 obtain⟨dst,op,ty,pos,after,guard⟩:=o
 cases op<;>simp only[xe]at k
 case move x=>
  obtain⟨v,h1,k⟩:=aG k
  simp only[execOp,Sem.run_pure]
  exact⟨v,h,G,aO r h1,k,s,Evo.refl _ _ _⟩
 case assign x=>
  obtain⟨v,h1,k⟩:=aG k
  simp only[execOp,Sem.run_pure]
  exact⟨v,h,G,aO r h1,k,s,Evo.refl _ _ _⟩
 case pick c x y=>
  obtain⟨cv,h1,k⟩:=aG k
  obtain⟨xv,h2,k⟩:=aG k
  obtain⟨yv,h3,k⟩:=aG k
  have hc:=aO r h1
  unfold ifB at k
  split at k
  ·simp only[Rep]at hc
   simp only[execOp,hc.1,asBool,Sem.run_bind,Sem.run_pure,Result.andThen_ok,if_true]
   exact⟨xv,h,G,aO r h2,k,s,Evo.refl _ _ _⟩
  ·simp only[Rep]at hc
   simp only[execOp,hc.1,asBool,Sem.run_bind,Sem.run_pure,Result.andThen_ok,Bool.false_eq_true,if_false]
   exact⟨yv,h,G,aO r h3,k,s,Evo.refl _ _ _⟩
  ·exact k.elim
 case alloc e=>
  unfold ZF at k
  split at k
  ·rename_i i hi
   split at k
   ·rename_i z hz
    split at k
    ·rename_i hzo
     have hzc:RepL G (ofV z).cells z.cells.toList:=(rU G z hzo).cells (by
      unfold ofV GL;split<;>(try split)<;>rfl)
     obtain⟨r',h',G',q1,q2,q3,q4⟩:=Ta (t:=e) s hzc k.out
     refine gG ⟨r',_,h',G',_,?_,q1,q2,q3,q4⟩
     simp only[Instr.alloc,Sem.run_bind,zeroValue,typeInfo,run_program,Result.andThen_ok,hi,hz,Sem.run_pure,newVar,newRow,run_newObj]
     rfl
    ·exact k.elim
   ·exact k.elim
  ·exact k.elim
 case box e x=>
  obtain⟨v,h1,k⟩:=aG k
  obtain⟨⟨ht,k⟩⟩:=k
  have hv:=(aO r h1).cells ht
  obtain⟨r',h',G',q1,q2,q3,q4⟩:=Ta (t:=e) s hv k
  refine gG ⟨r',_,h',G',_,?_,q1,q2,q3,q4⟩
  simp only[Instr.box,newVar,newRow,Sem.run_bind,run_newObj,Result.andThen_ok,Sem.run_pure]
  rfl
 case build t ps=>
  obtain⟨vs,h1,k⟩:=dn k
  unfold xy at k
  split at k
  ·rename_i fs i ht hi
   split at k
   ·rename_i z l hz hl
    split at k
    ·rename_i hzo
     split at k
     ·rename_i qs hq
      have hr:=jc r h1
      have hlen:vs.length=ps.size:=by have:=hr.length;simpa using this.symm
      refine bd s (TG (ps:=(ps.toList.map (·.1)).zip vs) ht hi hz hzo hl hq ?_ ?_ k.out)
      ·rw[List.map_fst_zip (by simp;omega)]
       simp
      ·rw[List.map_snd_zip (by simp;omega)]
       have e2:(ps.map fun p=>(p.1,a.eval p.2)).toList.map (·.2)=(ps.toList.map (·.2)).map a.eval:=by simp[List.map_map,Function.comp_def]
       rw[e2];exact hr
     ·exact k.elim
    ·exact k.elim
   ·exact k.elim
  ·exact k.elim
 case buildSlice t n ps=>
  obtain⟨vs,h1,k⟩:=dn k
  unfold g6 at k
  split at k
  ·rename_i e ht
   split at k
   ·rename_i i hi
    split at k
    ·rename_i z hz
     split at k
     ·rename_i hc
      simp only[Bool.and_eq_true,beq_iff_eq,decide_eq_true_eq]at hc
      have hr:=jc r h1
      have hn:ps.toList.length=n:=by have:=congrArg List.length hc.1;simpa using this
      have e2:(ps.toList.map fun p=>a.eval p.2)=(ps.toList.map (·.2)).map a.eval:=by simp[List.map_map,Function.comp_def]
      obtain⟨r',v,h',G',w',q1,q2,⟨q3,q5⟩,q4⟩:=Ia s (xs:=ps.toList.map fun p=>a.eval p.2) (ps:=ps.map fun p=>(p.1,a.eval p.2)) ht hi hz (by
       apply List.ext_getElem?
       intro j
       simp only[Array.toList_map,List.getElem?_map,List.getElem?_zipIdx]
       rcases Nat.lt_or_ge j ps.toList.length with hj|hj
       ·have e1:=congrArg (·[j]?) hc.1
        simp only[List.getElem?_map,List.getElem?_range (show j<n by omega)]at e1
        rw[List.getElem?_eq_getElem hj]at e1 ⊢
        simp at e1
        simp[e1]
       ·rw[List.getElem?_eq_none hj];rfl) (by rw[e2];exact hr) hc.2 k.out
      subst q5
      exact gG ⟨r',v,_,G',w',q1,q2,q3,q4⟩
     ·exact k.elim
    ·exact k.elim
   ·exact k.elim
  ·exact k.elim
 case load t x=>
  obtain⟨v,h1,k⟩:=aG k
  unfold kL at k
  split at k
  ·rename_i d i ht hi
   split at k
   ·rename_i hd;exact bd s (Cx s ht hd hi (aO r h1) k.out)
   ·rename_i hd;exact bd s (De s ht (by simpa using hd) (aO r h1) k.out)
  ·exact k.elim
 case store t x u=>
  obtain⟨v,h1,k⟩:=aG k
  obtain⟨y,h2,k⟩:=aG k
  unfold Md at k
  split at k
  ·rename_i i hi
   obtain⟨h',G',w',q1,q2,q3,q4⟩:=Uu s hi (aO r h1) (aO r h2) k.out
   simp only[execOp,Sem.run_bind,q1,Result.andThen_ok,Sem.run_pure]
   exact⟨.tup [],h',G',by simp[Rep,RepL,undef],q2,q3,q4⟩
  ·exact k.elim
 case nilCheck x=>
  obtain⟨v,h1,k⟩:=aG k
  have hv:=aO r h1
  replace k:=k.out
  unfold IR at k
  split at k
  ·have hv':=hv
   simp only[Rep]at hv
   obtain⟨b,o,_,e⟩:=hv
   simp only[execOp,e,Sem.run_pure]
   exact⟨_,h,G,by rw[← e];exact hv',k,s,Evo.refl _ _ _⟩
  ·have hv':=hv
   simp only[Rep]at hv
   obtain⟨b,o,e,_⟩:=hv
   simp only[execOp,e,Sem.run_pure]
   exact⟨_,h,G,by rw[← e];exact hv',k,s,Evo.refl _ _ _⟩
  ·have hv':=hv
   simp only[Rep]at hv
   obtain⟨vs,ws,e,_,_⟩:=hv
   simp only[execOp,e,Sem.run_pure]
   exact⟨_,h,G,by rw[← e];exact hv',k,s,Evo.refl _ _ _⟩
  ·exact k.elim
 case binOp op t x y yt=>
  obtain⟨v,h1,k⟩:=aG k
  obtain⟨u,h2,k⟩:=aG k
  unfold OO at k
  split at k
  ·exact bd s (Yv ‹_› (aO r h1) (aO r h2) k.out)
  ·exact bd s (Yj ‹_› (aO r h1) (aO r h2) k.out)
  ·exact bd s (Ln (aO r h1) (aO r h2) k.out)
  ·exact bd s (Ln (aO r h1) (aO r h2) k.out)
  ·exact bd s (Ln (aO r h1) (aO r h2) k.out)
  ·exact k.elim
 case unOp op t x=>
  obtain⟨v,h1,k⟩:=aG k
  exact bd s (abo (aO r h1) k.out)
 case convert sr d x=>
  obtain⟨v,h1,k⟩:=aG k
  unfold DV at k
  split at k
  ·exact bd s (Qm ‹_› ‹_› (aO r h1) k.out)
  ·exact bd s (Rb ‹_› ‹_› (aO r h1) k.out)
  ·exact bd s (Qk ‹_› ‹_› (aO r h1) k.out)
  ·exact k.elim
 case makeInterface t x=>
  obtain⟨v,h1,k⟩:=aG k
  unfold CU at k
  split at k
  ·exact k.elim
  ·rename_i d hd ht
   exact bd s (U3 ht (fun m e=>hd m e) (aO r h1) k.out)
  ·exact k.elim
 case makeFunc f fi ca=>
  obtain⟨vs,h1,k⟩:=dn k
  obtain⟨ws,h2,k⟩:=dn k
  refine bd s ⟨_,_,by simp only[Instr.makeFunc,Sem.run_pure];rfl,?_,k⟩
  simp only[Rep]
  exact⟨fi.toList.map a.eval,ca.toList.map a.eval,by congr 1<;>(apply Array.toList_inj.1;simp),jc r h1,jc r h2⟩
 case slice t x lo hio mx=>
  obtain⟨v,h1,k1⟩:=aG k
  obtain⟨l,h2,k2⟩:=tV k1
  obtain⟨u,h3,k3⟩:=tV k2
  obtain⟨m,h4,k4⟩:=tV k3
  clear k k1 k2 k3
  have hm:=GV r h4
  have hl:=GV r h2
  have hu:=GV r h3
  clear h2 h3 h4
  unfold nq at k4
  split at k4
  ·rename_i ht
   cases mx with
   | some _=>simp[nk]at hm
   | none=>exact bd s (QW ht (aO r h1) hl hu k4.out)
  ·rename_i e ht
   cases mx with
   | some _=>simp[nk]at hm
   | none=>
     split at k4
     ·exact bd s (Qh ht ‹_› (aO r h1) hl hu k4.out)
     ·exact k4.elim
  ·rename_i e k2 ht
   split at k4
   ·rename_i i k1 hinf
    cases mx with
    | none=>simp[nk]at hm
    | some mx=>
      cases lo with
      | some _=>simp[nk]at hl
      | none=>
        cases hio with
        | none=>simp[nk]at hu
        | some hi'=>
          simp only[nk,Option.map_some,Rep]at hu hm
          have:=bd s (QD (P:=P) ht hinf (aO r h1) k1 k2 k4.out)
          simp only[execOp,Option.map_some,Option.map_none,hu.1,hm.1]
          exact this
   ·exact k4.elim
  ·exact k4.elim
 case fieldAddr t x f=>
  obtain⟨v,h1,k⟩:=aG k
  unfold nP at k
  split at k
  ·rename_i fs ht
   split at k
   ·rename_i fd hfd
    split at k
    ·rename_i i hi
     split at k
     ·exact k.elim
     ·rename_i hz
      exact bd s (Iv ht hfd hi hz (aO r h1) k.out)
    ·exact k.elim
   ·exact k.elim
  ·exact k.elim
 case field t x f=>
  obtain⟨v,h1,k⟩:=aG k
  unfold xX at k
  split at k
  ·rename_i fs ht
   split at k
   ·rename_i fd hfd
    unfold D7 at k
    have hrun:∀ x:Value,(Instr.field t x f).run P w=(do part fd.type (← asAgg x) fd.offset:Sem Value).run P w:=fun x=>by
     simp only[Instr.field,Sem.run_bind,run_underlying ht,Result.andThen_ok,hfd]
    split at k
    ·rename_i d i hd hi
     split at k
     ·rename_i ha
      obtain⟨r',v',q1,q2,q3⟩:=Um (P:=P) (w:=w) hd ha hi (aO r h1) k.out
      exact bd s ⟨r',v',by rw[hrun];exact q1,q2,q3⟩
     ·rename_i ha
      obtain⟨r',v',q1,q2,q3⟩:=VJ (P:=P) (w:=w) hd (by simpa using ha) (aO r h1) k.out
      exact bd s ⟨r',v',by rw[hrun];exact q1,q2,q3⟩
    ·exact k.elim
   ·exact k.elim
  ·exact k.elim
 case indexAddr t x i=>
  obtain⟨v,h1,k⟩:=aG k
  obtain⟨u,h2,k⟩:=aG k
  unfold ew at k
  split at k
  ·split at k
   ·exact bd s (zB ‹_› ‹_› (aO r h1) (aO r h2) k.out)
   ·exact k.elim
  ·split at k
   ·exact bd s (wL ‹_› ‹_› (aO r h1) (aO r h2) k.out)
   ·exact k.elim
  ·exact k.elim
 case index t x i=>
  obtain⟨v,h1,k⟩:=aG k
  obtain⟨u,h2,k⟩:=aG k
  unfold C6 at k
  split at k
  ·exact bd s (QM ‹_› (aO r h1) (aO r h2) k.out)
  ·exact k.elim
 case extract x i=>
  obtain⟨v,h1,k⟩:=aG k
  exact bd s (Py (aO r h1) k.out)
 case call c=>
  obtain⟨vs,h1,kk⟩:=dn k
  clear k
  have hr:=jc r h1
  obtain⟨callee,args,argTypes⟩:=c
  cases callee with
  | value f=>
    simp only at kk
    obtain⟨v,h2,k3⟩:=aG kk
    have:=aas (P:=P) (ys:=args.map a.eval) s (aO r h2) (by simpa using hr) k3
    simpa [execOp,resolve] using this
  | invoke _ _=>exact kk.elim
  | builtin b=>
    cases b<;>simp only at kk<;>try exact kk.elim
    case len=>
     split at kk
     ·rename_i v t hT
      obtain⟨d,hd,hf,kk⟩:=Zw kk
      obtain⟨x,hx,hx2⟩:=hr.single
      have ha:argTypes=#[t]:=by apply Array.toList_inj.1;simpa using hT
      have hargs:args.map a.eval=#[x]:=by apply Array.toList_inj.1;simpa using hx
      subst ha
      obtain⟨r',v',q1,q2,q3⟩:=Zj (ty:=ty) s hd hx2 hf kk
      simp only[execOp,resolve,Sem.run_bind,Sem.run_pure,Result.andThen_ok,invoke,builtin,hargs,q1]
      exact⟨r',h,G,q2,q3,s,Evo.refl _ _ _⟩
     ·exact kk.elim
    case append=>
     split at kk
     ·rename_i v u t t2 hT
      unfold BM at kk
      split at kk
      ·rename_i e d2 ht ht2
       split at kk
       ·rename_i i hi
        split at kk
        ·rename_i hok
         obtain⟨x,y,hx,hx2,hx3⟩:=hr.two
         have ha:argTypes=#[t,t2]:=by apply Array.toList_inj.1;simpa using hT
         have hargs:args.map a.eval=#[x,y]:=by apply Array.toList_inj.1;simpa using hx
         subst ha
         simp only[X5,Bool.and_eq_true,decide_eq_true_eq]at hok
         obtain⟨⟨ho1,ho2⟩,ho3⟩:=hok
         split at ho1
         ·rename_i z hz
          have T:HC P t t2 e i z:=⟨ht,⟨d2,ht2,fun k e=>by subst e;simp at ho3⟩,hi,hz,by simpa using ho1,ho2⟩
          obtain⟨r',v',h',G',w',q1,q2,q3,q4,q5⟩:=Re (ty:=ty) s T hx2 hx3 kk.out
          simp only[execOp,resolve,Sem.run_bind,Sem.run_pure,Result.andThen_ok,invoke,builtin,hargs,q1]
          exact⟨r',h',G',q2,q3,q4,q5⟩
         ·cases ho1
        ·exact kk.elim
       ·exact kk.elim
      ·exact kk.elim
     ·exact kk.elim
    case max=>
     split at kk
     ·rename_i v u
      obtain⟨x,y,hx,hx2,hx3⟩:=hr.two
      have hargs:args.map a.eval=#[x,y]:=by apply Array.toList_inj.1;simpa using hx
      obtain⟨r',v',q1,q2,q3⟩:=aat (P:=P) (w:=w) (ts:=argTypes) (t:=ty) hx2 hx3 kk.out
      simp only[execOp,resolve,Sem.run_bind,Sem.run_pure,Result.andThen_ok,invoke,builtin,hargs,q1]
      exact⟨r',h,G,q2,q3,s,Evo.refl _ _ _⟩
     ·exact kk.elim
    case min=>
     split at kk
     ·rename_i v u
      obtain⟨x,y,hx,hx2,hx3⟩:=hr.two
      have hargs:args.map a.eval=#[x,y]:=by apply Array.toList_inj.1;simpa using hx
      obtain⟨r',v',q1,q2,q3⟩:=aaf (P:=P) (w:=w) (ts:=argTypes) (t:=ty) hx2 hx3 kk.out
      simp only[execOp,resolve,Sem.run_bind,Sem.run_pure,Result.andThen_ok,invoke,builtin,hargs,q1]
      exact⟨r',h,G,q2,q3,s,Evo.refl _ _ _⟩
     ·exact kk.elim
end
end
section
variable [Tabs]
section
variable {P:Program}
theorem TL {K K':AV→Prop}(hk:∀ v,K v→K' v) (op:BinOp) (x y:AV) (k:Ez op x y K):Ez op x y K':=by
 unfold Ez at *
 (repeat' split at k)<;>first|exact k.elim|simp_all
theorem P9 {K K':AV→Prop}(hk:∀ v,K v→K' v) (op:BinOp) (x y:AV) (k:xi op x y K):xi op x y K':=by
 unfold xi at *
 (repeat' split at k)<;>first|exact k.elim|simp_all
theorem Rp {K K':AV→Prop}(hk:∀ v,K v→K' v) (op:BinOp) (x y:AV) (k:wd op x y K):wd op x y K':=by
 unfold wd at *
 (repeat' split at k)<;>first|exact k.elim|simp_all
theorem X9 {K K':AV→Prop}(hk:∀ v,K v→K' v) (op:UnOp) (x:AV) (k:pUn op x K):pUn op x K':=by
 unfold pUn at *
 (repeat' split at k)<;>first|exact k.elim|simp_all
theorem KP {K K':AV→Prop}(hk:∀ v,K v→K' v) (d:IntKind) (x:AV) (k:mN d x K):mN d x K':=by
 unfold mN at *
 (repeat' split at k)<;>first|exact k.elim|simp_all
theorem MB {K K':AV→Prop}(hk:∀ v,K v→K' v) (d:FloatKind) (x:AV) (k:mU d x K):mU d x K':=by
 unfold mU at *
 (repeat' split at k)<;>first|exact k.elim|simp_all
theorem Mp {K K':AV→Prop}(hk:∀ v,K v→K' v) (x:AV) (k:lV x K):lV x K':=by
 unfold lV at *
 (repeat' split at k)<;>first|exact k.elim|simp_all
theorem U0 {K K':AV→Prop}(hk:∀ v,K v→K' v) (x:AV) (k:IR x K):IR x K':=by
 unfold IR at *
 (repeat' split at k)<;>first|exact k.elim|simp_all
theorem EB {K K':AV→Prop}(hk:∀ v,K v→K' v) (n:Nat) (x:AV) (k:eZ n x K):eZ n x K':=by
 unfold eZ at *
 (repeat' split at k)<;>first|exact k.elim|simp_all
theorem PY {K K':AV→Prop}(hk:∀ v,K v→K' v) (n:Nat) (x:AV) (h:ae) (k:nM n x h K):nM n x h K':=by
 unfold nM at *
 (repeat' split at k)<;>first|exact k.elim|simp_all
theorem O7 {K K':AV→Prop}(hk:∀ v,K v→K' v) (x:AV) (h:ae) (k:mc x h K):mc x h K':=by
 unfold mc at *
 (repeat' split at k)<;>first|exact k.elim|simp_all
theorem Oq {K K':AV→Prop}(hk:∀ v,K v→K' v) (o n:Nat) (x:AV) (k:qU o n x K):qU o n x K':=by
 unfold qU at *
 (repeat' split at k)<;>first|exact k.elim|simp_all
theorem PS {K K':AV→Prop}(hk:∀ v,K v→K' v) (o:Nat) (x:AV) (k:qx o x K):qx o x K':=by
 unfold qx at *
 (repeat' split at k)<;>first|exact k.elim|simp_all
theorem K5 {K K':AV→Prop}(hk:∀ v,K v→K' v) (x i:AV) (k:k8 x i K):k8 x i K':=by
 unfold k8 at *
 (repeat' split at k)<;>first|exact k.elim|simp_all
theorem ES {K K':AV→Prop}(hk:∀ v,K v→K' v) (n:Nat) (x i:AV) (k:dp n x i K):dp n x i K':=by
 unfold dp at *
 (repeat' split at k)<;>first|exact k.elim|simp_all
theorem C9 {K K':AV→Prop}(hk:∀ v,K v→K' v) (m n:Nat) (x i:AV) (k:cR m n x i K):cR m n x i K':=by
 unfold cR at *
 (repeat' split at k)<;>first|exact k.elim|simp_all
theorem ML {K K':AV→Prop}(hk:∀ v,K v→K' v) (x:AV) (a b:Option AV) (k:iX x a b K):iX x a b K':=by
 unfold iX at *
 (repeat' split at k)<;>first|exact k.elim|simp_all
theorem L7 {K K':AV→Prop}(hk:∀ v,K v→K' v) (n:Nat) (x:AV) (a b:Option AV) (k:ij n x a b K):ij n x a b K':=by
 unfold ij at *
 (repeat' split at k)<;>first|exact k.elim|simp_all
theorem Me {K K':AV→Prop}(hk:∀ v,K v→K' v) (x:AV) (k:ma x K):ma x K':=by
 unfold ma at *
 (repeat' split at k)<;>first|exact k.elim|simp_all
theorem QR {K K':AV→Prop}(hk:∀ v,K v→K' v) (x:AV) (k:zC x K):zC x K':=by
 unfold zC at *
 (repeat' split at k)<;>first|exact k.elim|simp_all
theorem Qc {K K':AV→Prop}(hk:∀ v,K v→K' v) (x:AV) (k:zD x K):zD x K':=by
 unfold zD at *
 (repeat' split at k)<;>first|exact k.elim|simp_all
theorem Rf {K K':AV→Prop}(hk:∀ v,K v→K' v) (x:AV) (h:ae) (k:y6 x h K):y6 x h K':=by
 unfold y6 at *
 (repeat' split at k)<;>first|exact k.elim|simp_all
theorem Io {K K':AV→Prop}(hk:∀ v,K v→K' v) (i:Nat) (x:AV) (k:iA i x K):iA i x K':=by
 unfold iA at *
 (repeat' split at k)<;>first|exact k.elim|simp_all
theorem T0 {K K':AV→Prop}(hk:∀ v,K v→K' v) (x y:AV) (k:EV x y K):EV x y K':=by
 unfold EV at *
 split at k
 ·exact hk _ k
 ·exact k.elim
theorem Ux {K K':AV→Prop}(hk:∀ v,K v→K' v) (x y:AV) (k:Et x y K):Et x y K':=by
 unfold Et at *
 split at k
 ·exact hk _ k
 ·exact k.elim
theorem PZ {K K':AV→Prop}(hk:∀ v,K v→K' v) (z:List AV) (ps:List (Nat×Nat×AV)) (k:pa z ps K):pa z ps K':=by
 unfold pa at *
 (repeat' split at k)<;>first|exact k.elim|simp_all
theorem tL {K K':AV→Prop}(hk:∀ v,K v→K' v) (op:BinOp) (x y:AV) (k:ai op x y K):ai op x y K':=⟨TL hk op x y k.out⟩
theorem Aq {K K':AV→Prop}(hk:∀ v,K v→K' v) (op:BinOp) (x y:AV) (k:Kz op x y K):Kz op x y K':=⟨P9 hk op x y k.out⟩
theorem Ae {K K':AV→Prop}(hk:∀ v,K v→K' v) (op:BinOp) (x y:AV) (k:DH op x y K):DH op x y K':=⟨Rp hk op x y k.out⟩
theorem FR {K K':AV→Prop}(hk:∀ v,K v→K' v) (op:UnOp) (x:AV) (k:qUn op x K):qUn op x K':=⟨X9 hk op x k.out⟩
theorem uE {K K':AV→Prop}(hk:∀ v,K v→K' v) (d:IntKind) (x:AV) (k:ci d x K):ci d x K':=⟨KP hk d x k.out⟩
theorem vc {K K':AV→Prop}(hk:∀ v,K v→K' v) (d:FloatKind) (x:AV) (k:rD d x K):rD d x K':=⟨MB hk d x k.out⟩
theorem vu {K K':AV→Prop}(hk:∀ v,K v→K' v) (x:AV) (k:yr x K):yr x K':=⟨Mp hk x k.out⟩
theorem CT {K K':AV→Prop}(hk:∀ v,K v→K' v) (x:AV) (k:aE x K):aE x K':=⟨U0 hk x k.out⟩
theorem pc {K K':AV→Prop}(hk:∀ v,K v→K' v) (n:Nat) (x:AV) (k:ab n x K):ab n x K':=⟨EB hk n x k.out⟩
theorem gZ {K K':AV→Prop}(hk:∀ v,K v→K' v) (n:Nat) (x:AV) (h:ae) (k:aw n x h K):aw n x h K':=⟨PY hk n x h k.out⟩
theorem g7 {K K':AV→Prop}(hk:∀ v,K v→K' v) (x:AV) (h:ae) (k:ag x h K):ag x h K':=⟨O7 hk x h k.out⟩
theorem wO {K K':AV→Prop}(hk:∀ v,K v→K' v) (o n:Nat) (x:AV) (k:Dt o n x K):Dt o n x K':=⟨Oq hk o n x k.out⟩
theorem wN {K K':AV→Prop}(hk:∀ v,K v→K' v) (o:Nat) (x:AV) (k:Dv o x K):Dv o x K':=⟨PS hk o x k.out⟩
theorem vd {K K':AV→Prop}(hk:∀ v,K v→K' v) (x i:AV) (k:bj x i K):bj x i K':=⟨K5 hk x i k.out⟩
theorem iz {K K':AV→Prop}(hk:∀ v,K v→K' v) (n:Nat) (x i:AV) (k:am n x i K):am n x i K':=⟨ES hk n x i k.out⟩
theorem eS {K K':AV→Prop}(hk:∀ v,K v→K' v) (m n:Nat) (x i:AV) (k:cd m n x i K):cd m n x i K':=⟨C9 hk m n x i k.out⟩
theorem uW {K K':AV→Prop}(hk:∀ v,K v→K' v) (x:AV) (a b:Option AV) (k:bm x a b K):bm x a b K':=⟨ML hk x a b k.out⟩
theorem uY {K K':AV→Prop}(hk:∀ v,K v→K' v) (n:Nat) (x:AV) (a b:Option AV) (k:ir n x a b K):ir n x a b K':=⟨L7 hk n x a b k.out⟩
theorem ve {K K':AV→Prop}(hk:∀ v,K v→K' v) (x:AV) (k:Bn x K):Bn x K':=⟨Me hk x k.out⟩
theorem Af {K K':AV→Prop}(hk:∀ v,K v→K' v) (x:AV) (k:bH x K):bH x K':=⟨QR hk x k.out⟩
theorem zZ {K K':AV→Prop}(hk:∀ v,K v→K' v) (x:AV) (k:aY x K):aY x K':=⟨Qc hk x k.out⟩
theorem zU {K K':AV→Prop}(hk:∀ v,K v→K' v) (x:AV) (h:ae) (k:JK x h K):JK x h K':=⟨Rf hk x h k.out⟩
theorem sZ {K K':AV→Prop}(hk:∀ v,K v→K' v) (i:Nat) (x:AV) (k:an i x K):an i x K':=⟨Io hk i x k.out⟩
theorem C0 {K K':AV→Prop}(hk:∀ v,K v→K' v) (x y:AV) (k:Co x y K):Co x y K':=⟨T0 hk x y k.out⟩
theorem DE {K K':AV→Prop}(hk:∀ v,K v→K' v) (x y:AV) (k:F0 x y K):F0 x y K':=⟨Ux hk x y k.out⟩
theorem w4 {K K':AV→Prop}(hk:∀ v,K v→K' v) (z:List AV) (ps:List (Nat×Nat×AV)) (k:ax z ps K):ax z ps K':=⟨PZ hk z ps k.out⟩
theorem Dz {K K':AV→Prop}(hk:∀ v,K v→K' v) (n m:Nat) (vs:List AV) (k:g9 n m vs K):g9 n m vs K':=⟨k.1,hk _ k.2⟩
theorem OE {K K':ae→Prop}(hk:∀ v,K v→K' v) (n:Nat) (x y:AV) (h:ae) (k:ux n x y h K):ux n x y h K':=by
 unfold ux at *
 (repeat' split at k)<;>first|exact k.elim|exact⟨k.1,hk _ k.2⟩
theorem KO {K K':QT}(hk:∀ v h,K v h→K' v h) (n m:Nat) (x y:AV) (h:ae) (k:eb n m x y h K):eb n m x y h K':=by
 unfold eb at *
 split at k
 ·exact k.elim
 ·split at k
  ·refine⟨k.1,?_⟩
   have k2:=k.2
   split at k2
   ·rename_i h0;rw[if_pos h0];exact hk _ _ k2
   ·rename_i h0;rw[if_neg h0];exact hk _ _ k2
  ·split at k
   ·exact⟨k.1,hk _ _ k.2⟩
   ·exact k.elim
  ·exact k.elim
theorem Nl {K K':QT}(hk:∀ v h,K v h→K' v h) (x:AV) (vs:List AV) (h:ae) (k:uU P x vs h K):uU P x vs h K':=by
 unfold uU at *
 split at k
 ·exact k.mono hk
 ·exact k.elim
theorem bl {K K':AV→Prop}(hk:∀ v,K v→K' v) (o:Option AV) (k:bV o K):bV o K':=by
 unfold bV at *;split at k
 ·exact hk _ k
 ·exact k.elim
theorem fg {K K':List AV→Prop}(hk:∀ v,K v→K' v) (o:Option (List AV)) (k:dX o K):dX o K':=by
 unfold dX at *;split at k
 ·exact hk _ k
 ·exact k.elim
theorem AM {K K':Option AV→Prop}(hk:∀ v,K v→K' v) (o:Option (Option AV)) (k:B1 o K):B1 o K':=by
 unfold B1 at *;split at k
 ·exact hk _ k
 ·exact k.elim
theorem dI {K K':AV→AV→Prop}(hk:∀ v u,K v u→K' v u) (a b:Option AV) (k:ez a b K):ez a b K':=bl (fun _ k=>bl (fun _ k=>hk _ _ k) _ k) _ k
theorem Bh {v:AV}{X Y X' Y':Prop}(hx:X→X') (hy:Y→Y') (k:ifB v X Y):ifB v X' Y':=by
 unfold ifB at *;split at k
 ·exact hx k
 ·exact hy k
 ·exact k.elim
theorem xm {K K':AV→Prop}(hk:∀ v,K v→K' v) (t:TypeId) (x:AV) (k:wB t x K):wB t x K':=⟨hk _ k.out⟩
theorem nR {K K':AV→Prop}(hk:∀ v,K v→K' v) (n m:Nat) (vs:List AV) (k:ao n m vs K):ao n m vs K':=⟨Dz hk _ _ _ k.out⟩
theorem Nc {K K':ae→Prop}(hk:∀ v,K v→K' v) (n:Nat) (x y:AV) (h:ae) (k:ak n x y h K):ak n x y h K':=⟨OE hk _ _ _ _ k.out⟩
theorem LK {K K':QT}(hk:∀ v h,K v h→K' v h) (n m:Nat) (x y:AV) (h:ae) (k:bc n m x y h K):bc n m x y h K':=⟨KO hk _ _ _ _ _ k.out⟩
theorem UK {env:Env}{h:ae}{o:Oper}{K K':QT}(hk:∀ v h,K v h→K' v h) (k:xe P env h o K):xe P env h o K':=by
 obtain⟨dst,op,ty,pos,after,guard⟩:=o
 have hk':∀ v,K v h→K' v h:=fun v=>hk v h
 cases op<;>simp only[xe]at k ⊢
 case move=>exact bl hk' _ k
 case assign=>exact bl hk' _ k
 case pick=>exact bl (fun _ k=>dI (fun _ _ k=>Bh (hk' _) (hk' _) k) _ _ k) _ k
 case alloc=>unfold ZF at *;(repeat' split at k)<;>first|exact k.elim|(rw[if_pos ‹_›];exact⟨hk _ _ k.out⟩)
 case box=>exact bl (fun _ k=>⟨⟨k.out.1,hk _ _ k.out.2⟩⟩) _ k
 case build=>refine fg (fun _ k=>?_) _ k;unfold xy at *;(repeat' split at k)<;>first|exact k.elim|(rw[if_pos ‹_›];exact w4 hk' _ _ k)
 case buildSlice=>refine fg (fun _ k=>?_) _ k;unfold g6 at *;(repeat' split at k)<;>first|exact k.elim|(rw[if_pos ‹_›];exact nR hk' _ _ _ k)
 case load=>refine bl (fun _ k=>?_) _ k;unfold kL at *;(repeat' split at k)<;>first|exact k.elim|(rw[if_pos ‹_›];exact gZ hk' _ _ _ k)|(rw[if_neg ‹_›];exact g7 hk' _ _ k)
 case store=>refine dI (fun _ _ k=>?_) _ _ k;unfold Md at *;(repeat' split at k)<;>first|exact k.elim|exact Nc (fun _ k=>hk _ _ k) _ _ _ _ k
 case nilCheck=>exact bl (fun _ k=>CT hk' _ k) _ k
 case binOp=>refine dI (fun _ _ k=>?_) _ _ k;unfold OO at *;(repeat' split at k)<;>first|exact k.elim|exact tL hk' _ _ _ k|exact Aq hk' _ _ _ k|exact Ae hk' _ _ _ k
 case unOp=>exact bl (fun _ k=>FR hk' _ _ k) _ k
 case convert=>refine bl (fun _ k=>?_) _ k;unfold DV at *;(repeat' split at k)<;>first|exact k.elim|exact uE hk' _ _ k|exact vc hk' _ _ k|exact vu hk' _ k
 case makeInterface=>refine bl (fun _ k=>?_) _ k;unfold CU at *;(repeat' split at k)<;>first|exact k.elim|exact xm hk' _ _ k
 case makeFunc=>exact fg (fun _ k=>fg (fun _ k=>hk _ _ k) _ k) _ k
 case slice=>refine bl (fun _ k=>AM (fun _ k=>AM (fun _ k=>AM (fun _ k=>?_) _ k) _ k) _ k) _ k;unfold nq at *;(repeat' split at k)<;>first|exact k.elim|exact uW hk' _ _ _ k|exact uY hk' _ _ _ _ k|exact ve hk' _ k
 case fieldAddr=>refine bl (fun _ k=>?_) _ k;unfold nP at *;(repeat' split at k)<;>first|exact k.elim|(rw[if_neg ‹_›];exact pc hk' _ _ k)
 case field=>refine bl (fun _ k=>?_) _ k;unfold xX D7 at *;(repeat' split at k)<;>first|exact k.elim|(rw[if_pos ‹_›];exact wO hk' _ _ _ k)|(rw[if_neg ‹_›];exact wN hk' _ _ k)
 case indexAddr=>refine dI (fun _ _ k=>?_) _ _ k;unfold ew at *;(repeat' split at k)<;>first|exact k.elim|exact iz hk' _ _ _ k|exact eS hk' _ _ _ _ k
 case index=>refine dI (fun _ _ k=>?_) _ _ k;unfold C6 at *;(repeat' split at k)<;>first|exact k.elim|exact vd hk' _ _ k
 case extract=>exact bl (fun _ k=>sZ hk' _ _ k) _ k
 case call c=>
  refine fg (fun _ k=>?_) _ k
  split at k
  ·exact bl (fun _ k=>Nl hk _ _ _ k) _ k
  ·split at k
   ·unfold Di at *
    (repeat' split at k)<;>first|exact k.elim|exact Af hk' _ k|exact zZ hk' _ k|exact zU hk' _ _ k
   ·exact k.elim
  ·split at k
   ·unfold BM at *
    (repeat' split at k)<;>first|exact k.elim|(rw[if_pos ‹_›];exact LK hk _ _ _ _ _ k)
   ·exact k.elim
  ·split at k
   ·exact C0 hk' _ _ k
   ·exact k.elim
  ·split at k
   ·exact DE hk' _ _ k
   ·exact k.elim
  ·exact k.elim
end
end
section
variable [Tabs]
structure fW (d:TypeDesc) (ok:Bool) (z x key:AV) (h:ae) (K:AV→Prop):Prop where
 mk::(out:i5 d ok z x key h K)
structure qi (x:AV) (h:ae) (K:AV→Prop):Prop where
 mk::(out:gQ x h K)
structure Fa (op:BinOp) (x:AV) (K:AV→Prop):Prop where
 mk::(out:lR op x K)
structure Fm (op:BinOp) (x:AV) (K:AV→Prop):Prop where
 mk::(out:lY op x K)
structure Fh (op:BinOp) (x:AV) (K:AV→Prop):Prop where
 mk::(out:mR op x K)
structure jP (op:BinOp) (x:AV) (K:AV→Prop):Prop where
 mk::(out:od op x K)
structure zY (x:AV) (h:ae) (K:AV→Prop):Prop where
 mk::(out:o8 x h K)
structure Y3 (op:BinOp) (ds:List TypeDesc) (x y:AV) (K:AV→Prop):Prop where
 mk::(out:GB op ds x y K)
structure c5 (d:TypeDesc) (x key v:AV) (h:ae) (K:ae→Prop):Prop where
 mk::(out:fZ d x key v h K)
structure qk (d:TypeDesc) (z x key:AV) (h:ae) (K:QT):Prop where
 mk::(out:jO d z x key h K)
structure lK (x st v:AV) (h:ae) (K:ae→Prop):Prop where
 mk::(out:fJ x st v h K)
structure B3 (d:TypeDesc) (x key:AV) (h:ae) (K:ae→Prop):Prop where
 mk::(out:rx d x key h K)
structure mo (h:ae) (K:QT):Prop where
 mk::(out:uk h K)
structure uK (x:AV) (h:ae) (K:QT):Prop where
 mk::(out:rp x h K)
structure AN (x:AV) (h:ae) (K:QT):Prop where
 mk::(out:vm x h K)
structure vi (x:AV) (h:ae) (K:QT):Prop where
 mk::(out:pW x h K)
structure zT (x:AV) (h:ae) (K:QT):Prop where
 mk::(out:uQ x h K)
structure qe (x:AV) (h:ae) (K:QT):Prop where
 mk::(out:jW x h K)
structure lq (b:Nat) (z l c:AV) (h:ae) (K:QT):Prop where
 mk::(out:ig b z l c h K)
theorem lD {K K':AV→Prop}(hk:∀ v,K v→K' v) (op:BinOp) (b:Bool) (k:sT op b K):sT op b K':=by
 unfold sT at *
 split at k<;>first|exact k.elim|exact hk _ k
theorem Lp {K K':AV→Prop}(hk:∀ v,K v→K' v) (d:TypeDesc) (ok:Bool) (z x key:AV) (h:ae) (k:i5 d ok z x key h K):i5 d ok z x key h K':=by
 unfold i5 at *
 (repeat' split at k)<;>first|exact k.elim|(simp_all;done)|(simp_all only [];exact hk _ k)
theorem vx {K K':AV→Prop}(hk:∀ v,K v→K' v) (d:TypeDesc) (ok:Bool) (z x key:AV) (h:ae) (k:fW d ok z x key h K):fW d ok z x key h K':=⟨Lp hk d ok z x key h k.out⟩
theorem GG {K K':AV→Prop}(hk:∀ v,K v→K' v) (x:AV) (h:ae) (k:gQ x h K):gQ x h K':=by
 unfold gQ at *
 (repeat' split at k)<;>first|exact k.elim|(simp_all;done)|(simp_all only [];exact hk _ k)
theorem qP {K K':AV→Prop}(hk:∀ v,K v→K' v) (x:AV) (h:ae) (k:qi x h K):qi x h K':=⟨GG hk x h k.out⟩
theorem LP {K K':AV→Prop}(hk:∀ v,K v→K' v) (op:BinOp) (x:AV) (k:lR op x K):lR op x K':=by
 unfold lR at *
 (repeat' split at k)<;>first|exact k.elim|(simp_all;done)|(simp_all only [];exact hk _ k)
theorem uA {K K':AV→Prop}(hk:∀ v,K v→K' v) (op:BinOp) (x:AV) (k:Fa op x K):Fa op x K':=⟨LP hk op x k.out⟩
theorem Ml {K K':AV→Prop}(hk:∀ v,K v→K' v) (op:BinOp) (x:AV) (k:lY op x K):lY op x K':=by
 unfold lY at *
 (repeat' split at k)<;>first|exact k.elim|(simp_all;done)|(simp_all only [];exact hk _ k)
theorem uP {K K':AV→Prop}(hk:∀ v,K v→K' v) (op:BinOp) (x:AV) (k:Fm op x K):Fm op x K':=⟨Ml hk op x k.out⟩
theorem My {K K':AV→Prop}(hk:∀ v,K v→K' v) (op:BinOp) (x:AV) (k:mR op x K):mR op x K':=by
 unfold mR at *
 (repeat' split at k)<;>first|exact k.elim|(simp_all;done)|(simp_all only [];exact hk _ k)
theorem uV {K K':AV→Prop}(hk:∀ v,K v→K' v) (op:BinOp) (x:AV) (k:Fh op x K):Fh op x K':=⟨My hk op x k.out⟩
theorem K6 {K K':AV→Prop}(hk:∀ v,K v→K' v) (op:BinOp) (x:AV) (k:od op x K):od op x K':=by
 unfold od at *
 split at k
 ·exact lD hk _ _ k
 ·split at k
  ·rename_i h0;rw[if_pos h0];exact⟨lD hk _ _ k.1,lD hk _ _ k.2⟩
  ·rename_i h0;rw[if_neg h0];exact lD hk _ _ k
 ·split at k
  ·rename_i h0;rw[if_pos h0];exact⟨lD hk _ _ k.1,lD hk _ _ k.2⟩
  ·rename_i h0;rw[if_neg h0];exact lD hk _ _ k
 ·exact k.elim
theorem A2 {K K':AV→Prop}(hk:∀ v,K v→K' v) (op:BinOp) (x:AV) (k:jP op x K):jP op x K':=⟨K6 hk op x k.out⟩
theorem PJ {K K':AV→Prop}(hk:∀ v,K v→K' v) (x:AV) (h:ae) (k:o8 x h K):o8 x h K':=by
 unfold o8 at *
 (repeat' split at k)<;>first|exact k.elim|(simp_all;done)|(simp_all only [];exact hk _ k)
theorem xH {K K':AV→Prop}(hk:∀ v,K v→K' v) (x:AV) (h:ae) (k:zY x h K):zY x h K':=⟨PJ hk x h k.out⟩
theorem T3 {K K':AV→Prop}(hk:∀ v,K v→K' v) (op:BinOp) (ds:List TypeDesc) (x y:AV) (k:GB op ds x y K):GB op ds x y K':=by
 unfold GB at *
 split at k
 ·split at k
  ·exact lD hk _ _ k
  ·exact k.elim
 ·exact k.elim
theorem CW {K K':AV→Prop}(hk:∀ v,K v→K' v) (op:BinOp) (ds:List TypeDesc) (x y:AV) (k:Y3 op ds x y K):Y3 op ds x y K':=⟨T3 hk op ds x y k.out⟩
theorem Ey {K K':ae→Prop}(hk:∀ v,K v→K' v) (d:TypeDesc) (x key v:AV) (h:ae) (k:fZ d x key v h K):fZ d x key v h K':=by
 unfold fZ at *
 (repeat' split at k)<;>first|exact k.elim|exact hk _ k|(rw[if_pos ‹_›];exact hk _ k)|(rw[if_neg ‹_›];exact hk _ k)|(simp_all;done)|(simp only[*,if_true];done)|(simp only[*,if_true];exact hk _ k)
theorem vH {K K':ae→Prop}(hk:∀ v,K v→K' v) (d:TypeDesc) (x key v:AV) (h:ae) (k:c5 d x key v h K):c5 d x key v h K':=⟨Ey hk d x key v h k.out⟩
theorem FF {K K':QT}(hk:∀ v h,K v h→K' v h) (d:TypeDesc) (z x key:AV) (h:ae) (k:jO d z x key h K):jO d z x key h K':=by
 unfold jO at *
 (repeat' split at k)<;>first|exact k.elim|exact hk _ _ k|(rw[if_pos ‹_›];exact hk _ _ k)|(rw[if_neg ‹_›];exact hk _ _ k)|(simp_all;done)|(simp only[*,if_true];done)|(simp only[*,if_true];exact hk _ _ k)
theorem GS {K K':QT}(hk:∀ v h,K v h→K' v h) (d:TypeDesc) (z x key:AV) (h:ae) (k:qk d z x key h K):qk d z x key h K':=⟨FF hk d z x key h k.out⟩
theorem CB {K K':ae→Prop}(hk:∀ v,K v→K' v) (x st v:AV) (h:ae) (k:fJ x st v h K):fJ x st v h K':=by
 unfold fJ at *
 (repeat' split at k)<;>first|exact k.elim|exact hk _ k|(rw[if_pos ‹_›];exact hk _ k)|(rw[if_neg ‹_›];exact hk _ k)|(simp_all;done)|(simp only[*,if_true];done)|(simp only[*,if_true];exact hk _ k)
theorem CZ {K K':ae→Prop}(hk:∀ v,K v→K' v) (x st v:AV) (h:ae) (k:lK x st v h K):lK x st v h K':=⟨CB hk x st v h k.out⟩
theorem Ly {K K':ae→Prop}(hk:∀ v,K v→K' v) (d:TypeDesc) (x key:AV) (h:ae) (k:rx d x key h K):rx d x key h K':=by
 unfold rx at *
 (repeat' split at k)<;>first|exact k.elim|exact hk _ k|(rw[if_pos ‹_›];exact hk _ k)|(rw[if_neg ‹_›];exact hk _ k)|(simp_all;done)|(simp only[*,if_true];done)|(simp only[*,if_true];exact hk _ k)
theorem Mb {K K':ae→Prop}(hk:∀ v,K v→K' v) (d:TypeDesc) (x key:AV) (h:ae) (k:B3 d x key h K):B3 d x key h K':=⟨Ly hk d x key h k.out⟩
theorem Ix {K K':QT}(hk:∀ v h,K v h→K' v h) (h:ae) (k:uk h K):uk h K':=by
 exact hk _ _ k
theorem Iy {K K':QT}(hk:∀ v h,K v h→K' v h) (h:ae) (k:mo h K):mo h K':=⟨Ix hk h k.out⟩
theorem Lk {K K':QT}(hk:∀ v h,K v h→K' v h) (x:AV) (h:ae) (k:rp x h K):rp x h K':=by
 unfold rp at *
 (repeat' split at k)<;>first|exact k.elim|exact hk _ _ k|(rw[if_pos ‹_›];exact hk _ _ k)|(rw[if_neg ‹_›];exact hk _ _ k)|(simp_all;done)|(simp only[*,if_true];done)|(simp only[*,if_true];exact hk _ _ k)
theorem Ll {K K':QT}(hk:∀ v h,K v h→K' v h) (x:AV) (h:ae) (k:uK x h K):uK x h K':=⟨Lk hk x h k.out⟩
theorem PE {K K':QT}(hk:∀ v h,K v h→K' v h) (x:AV) (h:ae) (k:vm x h K):vm x h K':=by
 unfold vm at *
 (repeat' split at k)<;>first|exact k.elim|exact hk _ _ k|(rw[if_pos ‹_›];exact hk _ _ k)|(rw[if_neg ‹_›];exact hk _ _ k)|(simp_all;done)|(simp only[*,if_true];done)|(simp only[*,if_true];exact hk _ _ k)
theorem NU {K K':QT}(hk:∀ v h,K v h→K' v h) (x:AV) (h:ae) (k:AN x h K):AN x h K':=⟨PE hk x h k.out⟩
theorem L4 {K K':QT}(hk:∀ v h,K v h→K' v h) (x:AV) (h:ae) (k:pW x h K):pW x h K':=by
 unfold pW at *
 (repeat' split at k)<;>first|exact k.elim|exact hk _ _ k|(rw[if_pos ‹_›];exact hk _ _ k)|(rw[if_neg ‹_›];exact hk _ _ k)|(simp_all;done)|(simp only[*,if_true];done)|(simp only[*,if_true];exact hk _ _ k)
theorem Mw {K K':QT}(hk:∀ v h,K v h→K' v h) (x:AV) (h:ae) (k:vi x h K):vi x h K':=⟨L4 hk x h k.out⟩
theorem N5 {K K':QT}(hk:∀ v h,K v h→K' v h) (x:AV) (h:ae) (k:uQ x h K):uQ x h K':=by
 unfold uQ at *
 split at k
 ·split at k
  ·exact hk _ _ k
  ·split at k
   ·exact⟨k.1,fun a=>hk _ _ (k.2.1 a),fun e he hs=>hk _ _ (k.2.2 e he hs)⟩
   ·exact k.elim
  ·exact k.elim
 ·exact k.elim
theorem Oo {K K':QT}(hk:∀ v h,K v h→K' v h) (x:AV) (h:ae) (k:zT x h K):zT x h K':=⟨N5 hk x h k.out⟩
theorem FJ {K K':QT}(hk:∀ v h,K v h→K' v h) (x:AV) (h:ae) (k:jW x h K):jW x h K':=by
 unfold jW at *
 (repeat' split at k)<;>first|exact k.elim|exact hk _ _ k|(rw[if_pos ‹_›];exact hk _ _ k)|(rw[if_neg ‹_›];exact hk _ _ k)|(simp_all;done)|(simp only[*,if_true];done)|(simp only[*,if_true];exact hk _ _ k)
theorem GD {K K':QT}(hk:∀ v h,K v h→K' v h) (x:AV) (h:ae) (k:qe x h K):qe x h K':=⟨FJ hk x h k.out⟩
theorem Ew {K K':QT}(hk:∀ v h,K v h→K' v h) (b:Nat) (z l c:AV) (h:ae) (k:ig b z l c h K):ig b z l c h K':=by
 unfold ig at *
 split at k
 ·exact⟨k.1,hk _ _ k.2⟩
 ·exact k.elim
theorem EJ {K K':QT}(hk:∀ v h,K v h→K' v h) (b:Nat) (z l c:AV) (h:ae) (k:lq b z l c h K):lq b z l c h K':=⟨Ew hk b z l c h k.out⟩
end
end Go.Proofs.YtgkmmcdhhkllnaaGreatDoor.AL
