import Derived.Test.YtbhphjpgjgigpaaGreatDoorAL1toAL6
import Derived.MapKept
set_option linter.all false
set_option autoImplicit true
set_option relaxedAutoImplicit true
set_option maxRecDepth 100000
namespace Go.Proofs.YtbhphjpgjgigpaaGreatDoor.AL
section
variable [Tabs]
section
variable {P:Program}{G:Gh}{h:ae}{w:World}
def Gh.freeze (G:Gh) (b:Nat) (vs:List Value):Gh:={ G with F:=fun c o=>if c=b then vs[o]? else G.F c o }
theorem PJ (s:Sim G h w) (vs:Array Value) (t:TypeId):
  Sim (G.freeze w.heap.size vs.toList) h (w.alloc (.cells vs t))∧Evo G h w (G.freeze w.heap.size vs.toList) h (w.alloc (.cells vs t)):=by
 have hF:∀ o,G.F w.heap.size o=none:=fun o=>by
  cases e:G.F w.heap.size o with
  | none=>rfl
  | some v=>have:=xK s e;omega
 have le:G.le (G.freeze w.heap.size vs.toList):=⟨fun _ _ e=>e,fun _ _ _=>rfl,fun b o v e=>by
  simp only[Gh.freeze]
  split
  ·rename_i hb;subst hb;rw[hF]at e;cases e
  ·exact e⟩
 have hold:∀ b,b<w.heap.size→(w.alloc (.cells vs t)).heap[b]?=w.heap[b]?:=fun b hb=>by
  show (w.heap.push _)[b]?=_
  rw[Array.getElem?_push,if_neg (by omega)]
 refine⟨⟨fun i o hi=>(s.obj i o hi).keep le fun p hp hl=>hold _ (s.loc_lt hi hl hp),s.dom,s.apart,?_,?_,Tabs.mono le.F s.tab⟩,⟨le,by simp,rfl,rfl,rfl,fun b hb _=>hold b hb,fun b hb=>.inl hb,fun b o v e=>by
  simp only[Gh.freeze]at e
  split at e
  ·rename_i hb;subst hb;exact .inr (.inr (Nat.le_refl _))
  ·exact .inl e⟩⟩
 ·intro b o v e
  simp only[Gh.freeze]at e
  split at e
  ·rename_i hb
   subst hb
   rw[World.cell?_alloc_new]
   simpa using e
  ·rw[World.cell?_alloc_lt w _ _ (xK s e)]
   exact s.frz b o v e
 ·intro i o p hi hl hp off
  simp only[Gh.freeze]
  have:=s.loc_lt hi hl hp
  rw[if_neg (by omega)]
  exact s.sep i o p hi hl hp off
theorem Kg (le:G.le (G.freeze w.heap.size vs)) {cs:List AV}(r:RepL G cs vs):RepAt (G.freeze w.heap.size vs) cs w.heap.size 0:=
 ja fun j a e=>by
  obtain⟨v,h1,h2⟩:=r.at j a e
  exact⟨v,by simp[Gh.freeze,h1],Rep.mono le a v h2⟩
def U7 (cs:List AV) (h:ae) (K:QT):Prop:=K (.ptr h.length 0) (h++[.cells cs])
theorem RG (s:Sim G h w) {cs:List AV}{vs:Array Value}{t:TypeId}(r:RepL G cs vs.toList) {K:QT}(k:U7 cs h K):
  ∃ r' h' G',Rep G' r' (.pointer (some ⟨w.heap.size,0,none⟩))∧K r' h'∧Sim G' h' (w.alloc (.cells vs t))∧Evo G h w G' h' (w.alloc (.cells vs t)):=by
 have hl:=r.length
 have le:=Gh.le_add s.fresh (w.heap.size,0) vs.size
 have x:ObjAt (G.add h.length (w.heap.size,0) vs.size) (w.alloc (.cells vs t)) h.length (.cells cs):=by
  refine⟨w.heap.size,0,vs,t,0,0,by simp[Gh.add],?_,by omega,?_,?_,?_⟩
  ·show (w.heap.push _)[w.heap.size]?=_
   simp
  ·simp[Gh.add];simp at hl;omega
  ·simp[Gh.add]
  ·intro j a e
   obtain⟨v,h1,h2⟩:=r.at j a e
   exact⟨v,by simpa using h1,Rep.mono le a v h2⟩
 obtain⟨s',ev⟩:=nU s (.cells vs t) (.cells cs) vs.size x
 exact⟨_,_,_,by simp only[Rep];exact⟨w.heap.size,0,by simp[Gh.add],rfl⟩,k,s',ev⟩
def gH (n size:Nat) (vs:List AV) (K:AV→Prop):Prop:=(vs.length=n∧(vs.all fun v=>!v.isTup&&v.cells.length==size)=true)∧K (.full n (vs.flatMap (·.cells)))
theorem wC (size:Nat):∀ {vs:List AV}{xs:List Value},RepL G vs xs→(vs.all fun v=>!v.isTup&&v.cells.length==size)=true→RepL G (vs.flatMap (·.cells)) (xs.flatMap fun x=>x.cells.toList)∧(vs.flatMap (·.cells)).length=vs.length*size
 | [],xs,r,_=>by simp only[RepL]at r;subst r;simp[RepL]
 | v::vs,xs,r,ha=>by
   simp only[RepL]at r
   obtain⟨x,xs',rfl,r1,r2⟩:=r
   simp only[List.all_cons,Bool.and_eq_true,Bool.not_eq_true',beq_iff_eq]at ha
   obtain⟨h1,h2⟩:=wC size r2 ha.2
   simp only[List.flatMap_cons,List.length_append,List.length_cons,Nat.succ_mul]
   exact⟨(r1.cells ha.1.1).append h1,by omega⟩
theorem Oy (size:Nat):∀ (vs:List AV) (xs:List Value) (k:Nat) (arr:Array Value),RepL G vs xs→(vs.all fun v=>!v.isTup&&v.cells.length==size)=true→(k+vs.length)*size≤arr.size→
  ∃ arr':Array Value,Instr.fill (fun i=>some (i*size,size)) arr ((xs.zipIdx k).map fun p=>(p.2,p.1))=some arr'∧arr'.toList=splice arr.toList (k*size) (xs.flatMap fun x=>x.cells.toList)
 | [],xs,k,arr,r,ha,hl=>by
   simp only[RepL]at r
   subst r
   exact⟨arr,by simp[Instr.fill],by simp[splice]⟩
 | v::vs,xs,k,arr,r,ha,hl=>by
   simp only[RepL]at r
   obtain⟨x,xs',rfl,r1,r2⟩:=r
   simp only[List.all_cons,Bool.and_eq_true,Bool.not_eq_true',beq_iff_eq]at ha
   obtain⟨⟨ht,hn⟩,ha⟩:=ha
   have hc:=r1.cells ht
   have hsz:x.cells.size=size:=by have:=hc.length;simp at this;omega
   have hmul:(k+(v::vs).length)*size=k*size+size+vs.length*size:=by
    simp only[List.length_cons]
    rw[Nat.add_mul,Nat.succ_mul];omega
   have key:=wm (k*size) x.cells.toList 0 arr (by simp;omega)
   have e1:(x.cells.zipIdx.foldl (fun (cs:Array Value) (x:Value×Nat)=>cs.setIfInBounds (k*size+x.2) x.1) arr).toList=splice arr.toList (k*size) x.cells.toList:=by
    rw[← Array.foldl_toList]
    have:x.cells.zipIdx.toList=x.cells.toList.zipIdx 0:=by simp
    rw[this]
    simpa using key
   have hsz2:(x.cells.zipIdx.foldl (fun (cs:Array Value) (x:Value×Nat)=>cs.setIfInBounds (k*size+x.2) x.1) arr).size=arr.size:=by
    have:=congrArg List.length e1
    rw[fL (by simp;omega)]at this
    simpa using this
   obtain⟨arr',h1,h2⟩:=Oy size vs xs' (k+1) (x.cells.zipIdx.foldl (fun (cs:Array Value) (x:Value×Nat)=>cs.setIfInBounds (k*size+x.2) x.1) arr) r2 ha (by rw[hsz2,Nat.add_mul,Nat.succ_mul];omega)
   refine⟨arr',?_,?_⟩
   ·simp only[List.zipIdx_cons,List.map_cons,Instr.fill]
    rw[if_neg (by simp;omega)]
    exact h1
   ·rw[h2,e1]
    have hf:(xs'.flatMap fun x=>x.cells.toList).length=vs.length*size:=by
     obtain⟨q1,q2⟩:=wC (G:=G) size r2 ha
     rw[q1.length,q2]
    apply List.ext_getElem?
    intro j
    have hx:x.cells.toList.length=size:=by simpa using hsz
    have hle:k*size+(x.cells.toList++xs'.flatMap fun x=>x.cells.toList).length≤arr.toList.length:=by simp[hf,hx];simp at hx;omega
    have hle1:k*size+x.cells.toList.length≤arr.toList.length:=by simp at hle ⊢;omega
    rw[dB (by rw[fL hle1];simp[hf,Nat.add_mul];simp at hle;omega),List.flatMap_cons,dB hle]
    rw[dB hle1]
    simp only[List.length_append,hf,hx,Nat.add_mul,Nat.one_mul]
    by_cases c1:j<k*size
    ·rw[if_pos (by omega),if_pos c1,if_pos c1]
    ·rw[if_neg c1,if_neg c1]
     by_cases c2:j<k*size+size
     ·rw[if_pos c2,if_pos c2,if_pos (by omega),List.getElem?_append_left (by omega)]
     ·rw[if_neg c2,if_neg c2]
      by_cases c3:j<k*size+size+vs.length*size
      ·rw[if_pos c3,if_pos (by omega),List.getElem?_append_right (by omega),hx]
       congr 1
       omega
      ·rw[if_neg c3,if_neg (by omega)]
theorem Fj (s:Sim G h w) {t e:TypeId}{i:TypeInfo}{z:Value}{n:Nat}{vs:List AV}{xs:List Value}{ps:Array (Nat×Value)}{K:AV→Prop}(ht:P.underlying t=some (.slice e)) (hi:P.info? e=some i)
  (hz:i.zero=some z) (hp:ps.toList=xs.zipIdx.map fun p=>(p.2,p.1)) (hr:RepL G vs xs) (hn:n*i.size≤2^24) (k:gH n i.size vs K):
  Ye P G h w (Instr.buildSlice t n ps) fun r h'=>K r∧h'=h:=by
 obtain⟨⟨rfl,ha⟩,k⟩:=k
 let zs:Array Value:=if vs.length*i.size=0 then #[] else z.cells
 obtain⟨arr',h1,h2⟩:=Oy i.size vs xs 0 ((Array.range (vs.length*i.size)).map (zs[·%zs.size]!)) hr ha (by simp)
 obtain⟨hf1,hf2⟩:=wC i.size hr ha
 have harr:arr'.toList=xs.flatMap fun x=>x.cells.toList:=by
  rw[h2]
  have:(xs.flatMap fun x=>x.cells.toList).length=vs.length*i.size:=by rw[hf1.length,hf2]
  simp[splice,this]
 obtain⟨s',ev⟩:=PJ s arr' e
 refine⟨_,.slice (some ⟨w.heap.size,0,none⟩) vs.length vs.length,h,_,w.alloc (.cells arr' e),?_,?_,⟨k,rfl⟩,s',ev⟩
 ·simp only[Instr.buildSlice,Sem.run_bind,run_underlying ht,Result.andThen_ok,sizeOf,typeInfo,run_program,hi,Sem.run_pure]
  rw[if_neg (by omega)]
  rw[← hp]at h1
  by_cases h0:vs.length*i.size=0
  ·rw[if_pos h0]
   simp only[zs,if_pos h0]at h1
   simp only[Sem.run_bind,Sem.run_pure,Result.andThen_ok,h1,newRow,run_newObj]
   rfl
  ·rw[if_neg h0]
   simp only[zs,if_neg h0]at h1
   simp only[Sem.run_bind,Sem.run_pure,Result.andThen_ok,zeroValue,typeInfo,run_program,hi,hz,h1,newRow,run_newObj]
   rfl
 ·simp only[Rep]
  exact .inr ⟨w.heap.size,0,rfl,Kg ev.le (by rw[harr];exact hf1)⟩
end
end
section
variable [Tabs]
section
variable {P:Program}{G:Gh}{h:ae}{w:World}
theorem H1 (w:World) (b:Nat) (x y:Obj):dl (dl w b x) b y=dl w b y:=by
 unfold dl
 simp[Array.setIfInBounds_setIfInBounds]
theorem qL (w:World) (b:Nat) (x:Obj) (h:w.heap[b]?=some x):dl w b x=w:=by
 unfold dl
 have:w.heap.setIfInBounds b x=w.heap:=by
  apply Array.ext_getElem?
  intro i
  rw[Array.getElem?_setIfInBounds]
  split
  ·rename_i hb
   subst hb
   split
   ·exact h.symm
   ·rename_i hn;rw[Array.getElem?_eq_none (by omega)]at h;cases h
  ·rfl
 rw[this]
theorem Uv (w:World) (b o:Nat) (arr:Array Value) (el:TypeId) (lo hi:Nat) (v:Value) (hb:w.heap[b]?=some (.cells arr el (lo,hi))) (hf:∀ k,k<arr.size→¬(lo≤k∧k<hi)) (ho:o<arr.size) (h1:v.oneCell'=true):
  (store ⟨b,o,none⟩ v).run P w=.ok () (dl w b (.cells (arr.setIfInBounds o v) el (lo,hi))):=by
 have hc:w.cell? ⟨b,o,none⟩=some arr[o]:=by simp[World.cell?,hb,ho]
 have hz:w.frozen? ⟨b,o,none⟩=false:=by
  have:=hf o ho
  simp only[World.frozen?,hb]
  simp only[Bool.and_eq_false_iff,decide_eq_false_iff_not]
  omega
 rw[run_store P w _ v _ h1,hc]
 simp only[hz,Bool.false_eq_true,if_false]
 congr 1
 unfold World.setCell dl
 congr 1
 apply Array.ext_getElem?
 intro i
 simp only[Array.getElem?_modify,Array.getElem?_setIfInBounds]
 have hbl:b<w.heap.size:=(Array.getElem?_eq_some_iff.1 hb).1
 by_cases hi':b=i
 ·subst hi'
  rw[hb]
  simp[hbl]
 ·simp[hi']
theorem uu (b o:Nat) (el:TypeId) (lo hi:Nat):∀ (vs:List Value) (i:Nat) (arr:Array Value) (w:World),w.heap[b]?=some (.cells arr el (lo,hi))→(∀ k,k<arr.size→¬(lo≤k∧k<hi))→o+i+vs.length≤arr.size→(∀ v∈vs,v.oneCell'=true)→
  ∃ arr':Array Value,(storeCells ⟨b,o,none⟩ vs i).run P w=.ok () (dl w b (.cells arr' el (lo,hi)))∧arr'.toList=splice arr.toList (o+i) vs
 | [],i,arr,w,hb,hf,hl,h1=>⟨arr,by simp[storeCells,qL w b _ hb],by simp[splice]⟩
 | v::vs,i,arr,w,hb,hf,hl,h1=>by
   simp only[List.length_cons]at hl
   have hs:=Uv (P:=P) w b (o+i) arr el lo hi v hb hf (by omega) (h1 v (by simp))
   have hbl:b<w.heap.size:=(Array.getElem?_eq_some_iff.1 hb).1
   obtain⟨arr',h2,h3⟩:=uu b o el lo hi vs (i+1) (arr.setIfInBounds (o+i) v) (dl w b (.cells (arr.setIfInBounds (o+i) v) el (lo,hi))) (mI w b _ hbl) (by simpa using hf) (by simp;omega) (fun x hx=>h1 x (by simp[hx]))
   refine⟨arr',?_,?_⟩
   ·simp only[storeCells,Sem.run_bind,dF,hs,Result.andThen_ok,h2,H1]
   ·rw[h3]
    apply List.ext_getElem?
    intro j
    rw[dB (by simp;omega),dB (by simp;omega)]
    simp only[Array.toList_setIfInBounds,List.getElem?_set,List.length_cons,Array.length_toList]
    by_cases c1:j<o+i
    ·rw[if_pos (by omega),if_pos c1,if_neg (by omega)]
    ·rw[if_neg c1]
     by_cases c2:j=o+i
     ·subst c2
      rw[if_pos (by omega),if_pos rfl,if_pos (by omega),if_pos (by omega)]
      simp
     ·rw[if_neg (by omega),if_neg (show ¬ o+i=j by omega)]
      by_cases c3:j<o+i+(vs.length+1)
      ·rw[if_pos (by omega),if_pos c3]
       rw[show j-(o+i)=(j-(o+(i+1)))+1 by omega,List.getElem?_cons_succ]
      ·rw[if_neg (by omega),if_neg c3]
theorem Em {vs:List Value}:∀ {az:List AV},RepL G az vs→az.all AV.one=true→∀ v∈vs,v.oneCell'=true
 | [],r,_=>by simp only[RepL]at r;subst r;simp
 | a::az,r,ha=>by
   simp only[RepL]at r
   obtain⟨x,xs,rfl,r1,r2⟩:=r
   simp only[List.all_cons,Bool.and_eq_true]at ha
   intro v hv
   simp only[List.mem_cons]at hv
   rcases hv with rfl|hv
   ·exact r1.one ha.1
   ·exact Em r2 ha.2 v hv
def ur (n:Nat) (v u:AV) (h:ae) (K:ae→Prop):Prop:=
 match v with
 | .ptr i o=>(match h[i]? with
   | some (.cells cs)=>(u.isTup=false∧u.cells.length=n∧u.cells.all AV.one=true∧o+n≤cs.length)∧K (h.set i (.cells (splice cs o u.cells)))
   | _=>False)
 | _=>False
theorem ro (s:Sim G h w) {i:Nat}{cs:List AV}(hi:h[i]?=some (.cells cs)):∃ b o arr el lo hi',G.loc i=some (b,o)∧w.heap[b]?=some (.cells arr el (lo,hi'))∧(∀ k,k<arr.size→¬(lo≤k∧k<hi'))∧
   cs.length≤G.cap i∧o+G.cap i≤arr.size∧∀ (j:Nat) (a:AV),cs[j]?=some a→∃ v,arr[o+j]?=some v∧Rep G a v:=s.obj i _ hi
theorem Uw (s:Sim G h w) {t:TypeId}{i:TypeInfo}(hi:P.info? t=some i) {v u:AV}{x y:Value}{K:ae→Prop}(hx:Rep G v x) (hy:Rep G u y) (k:ur i.size v u h K):
  ∃ h' G' w',(Instr.storeAt t x y).run P w=.ok () w'∧K h'∧Sim G' h' w'∧Evo G h w G' h' w':=by
 unfold ur at k
 split at k
 ·rename_i j off
  split at k
  ·rename_i cs hcs
   obtain⟨⟨ht,hn,ho,hle⟩,k⟩:=k
   simp only[Rep]at hx
   obtain⟨b,o,h1,rfl⟩:=hx
   obtain⟨b',o',arr,el,lo,hi',e1,e2,e3,e4,e5,e6⟩:=ro s hcs
   rw[h1]at e1
   cases e1
   have hc:=hy.cells ht
   have hlen:y.cells.size=i.size:=by have:=hc.length;simp at this;omega
   have hlen':y.cells.toList.length=i.size:=by simpa using hlen
   obtain⟨arr',h2,h3⟩:=uu (P:=P) b (o+off) el lo hi' y.cells.toList 0 arr w e2 e3 (by omega) (Em hc ho)
   have hsz:arr'.size=arr.size:=by
    have:=congrArg List.length h3
    rw[fL (by simp;omega)]at this
    simpa using this
   have x:ObjAt G (dl w b (.cells arr' el (lo,hi'))) j (.cells (splice cs off u.cells)):=by
    refine⟨b,o,arr',el,lo,hi',h1,mI w b _ (Array.getElem?_eq_some_iff.1 e2).1,by rw[hsz];exact e3,by rw[fL (by omega)];exact e4,by rw[hsz];exact e5,?_⟩
    intro q a ha
    rw[dB (by omega)]at ha
    have hget:arr'[o+q]?=arr'.toList[o+q]?:=by simp
    rw[hget,h3,dB (by simp;omega)]
    by_cases c1:q<off
    ·rw[if_pos c1]at ha
     rw[if_pos (by omega)]
     simpa using e6 q a ha
    ·rw[if_neg c1]at ha
     rw[if_neg (by omega)]
     by_cases c2:q<off+u.cells.length
     ·rw[if_pos c2]at ha
      rw[if_pos (by omega)]
      obtain⟨v,h4,h5⟩:=hc.at _ a ha
      exact⟨v,by rw[← h4];congr 1;omega,h5⟩
     ·rw[if_neg c2]at ha
      rw[if_neg (by omega)]
      simpa using e6 q a ha
   obtain⟨s',ev⟩:=vV s hcs rfl h1 rfl x
   refine⟨_,_,_,?_,k,s',ev⟩
   simp only[Instr.storeAt,Instr.sureAddr,Sem.run_bind,Sem.run_pure,Result.andThen_ok,storeVar,sizeOf,typeInfo,run_program,hi]
   rw[if_neg (by simp;omega)]
   exact h2
  ·exact k.elim
 ·exact k.elim
def dz (h:ae) (size:Nat):AV→Option (Nat×List AV)
 | .snap n cs=>if cs.length=n*size then some (n,cs) else none
 | .full n cs=>if cs.length=n*size then some (n,cs) else none
 | .sl i off len sz=>match h[i]? with
   | some (.cells cs)=>if sz=size∧off+len*size≤cs.length then some (len,(cs.drop off).take (len*size)) else none
   | _=>none
 | .lit (.string s)=>if size=1 then some (s.size,s.data.toList.map fun b=>.lit (.int .u8 b.toNat)) else none
 | _=>none
theorem zL (G:Gh):∀ l:List UInt8,RepL G (l.map fun b=>.lit (.int .u8 b.toNat)) (l.map fun b=>Value.int .u8 b.toNat)
 | []=>by simp[RepL]
 | b::l=>by simp only[List.map_cons,RepL];exact⟨_,_,rfl,by simp[Rep,Value.oneCell'],zL G l⟩
theorem tF (s:Sim G h w) {b o n:Nat}{cs:List AV}(r:RepAt G cs b o) (hn:cs.length=n):∃ vs:List Value,vs.length=n∧RepL G cs vs∧∀ j u,vs[j]?=some u→w.cell? ⟨b,o+j,none⟩=some u:=by
 refine⟨(List.range n).map fun j=>(G.F b (o+j)).getD undef,by simp,?_,?_⟩
 ·refine i7 (by simp;omega) fun j a ha=>?_
  obtain⟨u,h2,h3⟩:=r.at j a ha
  have:j<n:=by have:=(List.getElem?_eq_some_iff.1 ha).1;omega
  exact⟨u,by simp[this,h2],h3⟩
 ·intro j u hu
  by_cases hj:j<n
  ·obtain⟨u',h2,_⟩:=r.at j cs[j] (by simp)
   simp[hj,h2]at hu
   subst hu
   exact s.frz b (o+j) _ h2
  ·simp[hj]at hu
theorem m7 (s:Sim G h w) {size:Nat}{v:AV}{x:Value}(hx:Rep G v x) {m:Nat}{xs:List AV}(e:dz h size v=some (m,xs)):
  ∃ vs:List Value,vs.length=m*size∧RepL G xs vs∧(Builtin.lenOf x).run P w=.ok m w∧(Builtin.firstCells size m x).run P w=.ok vs.toArray w:=by
 have row:∀ (b o c:Nat) (vs:List Value),vs.length=m*size→(∀ j u,vs[j]?=some u→w.cell? ⟨b,o+j,none⟩=some u)→
   (Builtin.firstCells size m (.slice (some ⟨b,o,none⟩) m c)).run P w=.ok vs.toArray w:=fun b o c vs hl hv=>by
  have:=run_loadCells_list (P:=P) w ⟨b,o,none⟩ vs (fun j v hj=>by rw[dF];exact hv j v hj)
  rw[hl]at this
  simpa [Builtin.firstCells] using this
 unfold dz at e
 split at e
 ·rename_i n cs
  split at e
  ·rename_i hl
   cases e
   simp only[Rep]at hx
   rcases hx with ⟨rfl,rfl,za,rfl⟩|⟨b,o,c,h1,rfl,h2⟩
   ·exact⟨[],by simp,by simp[RepL],by cases za<;>simp[Builtin.lenOf],by cases za<;>simp[Builtin.firstCells,loadCells,loadCellsFrom]⟩
   ·obtain⟨vs,h3,h4,h5⟩:=tF s h2 hl
    exact⟨vs,h3,h4,by simp[Builtin.lenOf],row _ _ _ _ h3 h5⟩
  ·cases e
 ·rename_i n cs
  split at e
  ·rename_i hl
   cases e
   simp only[Rep]at hx
   rcases hx with ⟨rfl,rfl,za,rfl⟩|⟨b,o,rfl,h2⟩
   ·exact⟨[],by simp,by simp[RepL],by cases za<;>simp[Builtin.lenOf],by cases za<;>simp[Builtin.firstCells,loadCells,loadCellsFrom]⟩
   ·obtain⟨vs,h3,h4,h5⟩:=tF s h2 hl
    exact⟨vs,h3,h4,by simp[Builtin.lenOf],row _ _ _ _ h3 h5⟩
  ·cases e
 ·rename_i i off len sz
  split at e
  ·rename_i cs hcs
   split at e
   ·rename_i hc
    obtain⟨rfl,hle⟩:=hc
    cases e
    simp only[Rep]at hx
    obtain⟨b,o,c,ad,h1,h2,h3,h4,rfl⟩:=hx
    obtain⟨b',o',arr,el,lo,hi',e1,e2,e3,e4,e5,e6⟩:=ro s hcs
    rw[h1]at e1
    cases e1
    rcases Nat.eq_zero_or_pos c with hc0|hc0
    ·have:m=0:=by omega
     subst this
     refine⟨[],by simp,by simp[RepL],by simp[Builtin.lenOf],?_⟩
     have:=row b ad c [] (by simp) (by simp)
     simpa using this
    ·obtain rfl:=h4 hc0
     have hsz:off+m*sz≤G.cap i:=by omega
     refine⟨(arr.toList.drop (o+off)).take (m*sz),by simp;omega,?_,by simp[Builtin.lenOf],row _ _ _ _ (by simp;omega) ?_⟩
     ·refine i7 (by simp;omega) fun j a ha=>?_
      rw[List.getElem?_take]at ha ⊢
      split at ha
      ·rename_i hj
       rw[if_pos hj]
       rw[List.getElem?_drop]at ha ⊢
       obtain⟨v,h5,h6⟩:=e6 (off+j) a ha
       exact⟨v,by rw[Array.getElem?_toList,← h5];congr 1;omega,h6⟩
      ·cases ha
     ·intro j u hu
      rw[List.getElem?_take]at hu
      split at hu
      ·rw[List.getElem?_drop,Array.getElem?_toList]at hu
       simp[World.cell?,e2,hu]
      ·cases hu
   ·cases e
  ·cases e
 ·rename_i s'
  split at e
  ·rename_i h1
   subst h1
   cases e
   simp only[Rep]at hx
   obtain⟨rfl,_⟩:=hx
   refine⟨s'.data.toList.map fun b=>Value.int .u8 b.toNat,by simp,zL G _,by simp[Builtin.lenOf],?_⟩
   have:(s'.extract 0 s'.size)=s':=by
    apply ByteArray.ext
    simp
   simp only[Builtin.firstCells,this,Sem.run_pure]
   congr 1
   apply Array.toList_inj.1
   simp
  ·cases e
 ·cases e
end
end
section
variable [Tabs]
section
variable {P:Program}{G:Gh}{h:ae}{w:World}
def kF (size bytes:Nat) (v x:AV) (h:ae) (K:QT):Prop:=
 match dz h size x with
 | none=>False
 | some (m,xs)=>match v with
   | .full n cs=>(cs.length=n*size∧(n+m)*bytes≤1099511627776)∧(if m=0 then K (.full n cs) h else K (.sl h.length 0 (n+m) size) (h++[.cells (cs++xs)]))
   | .sl i off len sz=>(match h[i]? with
     | some (.cells cs)=>(sz=size∧off+len*size=cs.length∧xs.all AV.one=true∧(len+m)*bytes≤1099511627776)∧K (.sl h.length 0 (len+m) size) (h.set i .dead++[.cells (cs.drop off++xs)])
     | _=>False)
   | _=>False
theorem IC (n:Nat):∀ r c,Builtin.growBy n r c≤max c (n+(n+768) / 4)
 | 0,c=>by simp[Builtin.growBy];omega
 | r+1,c=>by
   simp only[Builtin.growBy]
   split
   ·omega
   ·have:=IC n r (c+(c+768) / 4)
    omega
theorem Pn {need cap:Nat}(h:cap<need):Builtin.nextslicecap need cap≤202*need:=by
 unfold Builtin.nextslicecap
 split
 ·omega
 ·split
  ·omega
  ·have:=IC need 4 cap
   omega
structure Gj (P:Program) (t t2 e:TypeId) (i:TypeInfo) (z:Value):Prop where
 ht:P.underlying t=some (.slice e)
 ht2:∃ d,P.underlying t2=some d∧∀ k,d≠.int k
 hi:P.info? e=some i
 hz:i.zero=some z
 hzs:z.cells.size=i.size
 hb:0<i.bytes
theorem NM {t2:TypeId}{d:TypeDesc}(h2:P.underlying t2=some d) (hd:∀ k,d≠.int k):(do pure ((← underlying t2) matches .int _):Sem Bool).run P w=.ok false w:=by
 simp only[Sem.run_bind,run_underlying h2,Result.andThen_ok]
 cases d<;>first|rfl|exact absurd rfl (hd _)
theorem EC {t t2 e ty:TypeId}{i:TypeInfo}{z:Value}(T:Gj P t t2 e i z) (base:Option Addr) (sLen sCap m:Nat) (y:Value) (vs vs' old:List Value) (hm:(Builtin.lenOf y).run P w=.ok m w) (hv:(Builtin.firstCells i.size m y).run P w=.ok vs.toArray w)
  (hv':(Builtin.firstCells i.size m y).run P { w with drawn:=w.drawn+1 }=.ok vs'.toArray { w with drawn:=w.drawn+1 }) (ho:(Builtin.firstCells i.size sLen (.slice base sLen sCap)).run P { w with drawn:=w.drawn+1 }=.ok old.toArray { w with drawn:=w.drawn+1 }) (hbd:(sLen+m)*i.bytes≤1099511627776):
  (Builtin.append_ #[t,t2] ty #[.slice base sLen sCap,y]).run P w=
   if sLen+m≤sCap then (match base with|some a=>(do storeCells (a.add (sLen*i.size)) vs;pure (.slice base (sLen+m) sCap):Sem Value)|none=>pure (.slice base (sLen+m) sCap)).run P w
   else
    let c:=sLen+m+(w.tape w.drawn (.appendCap (sLen+m) sCap e))%(2^63-(sLen+m))
    .ok (.slice (some ⟨w.heap.size,0,none⟩) (sLen+m) c) (World.alloc { w with drawn:=w.drawn+1 } (.cells (old.toArray++vs'.toArray++Builtin.zeroCells z.cells (c-(sLen+m))) e)):=by
 obtain⟨ht,⟨d,h2,hd⟩,hi,hz,hzs,hb⟩:=T
 have hzf:=NM (w:=w) h2 hd
 have hmat:(match d with|.int _=>true|_=>false)=false:=by cases d<;>first|rfl|exact absurd rfl (hd _)
 simp only[Builtin.append_]
 simp only[List.getElem?_toArray,List.getElem?_cons_zero,List.getElem?_cons_succ,Sem.run_bind,run_underlying ht,run_underlying h2,Result.andThen_ok,sizeOf,typeInfo,run_program,hi,Sem.run_pure,hmat,Bool.false_eq_true,if_false,hm,Sem.run_ite]
 by_cases hroom:sLen+m≤sCap
 ·rw[if_pos hroom,if_pos hroom]
  simp only[hv,Result.andThen_ok,Bool.not_false,if_true,Sem.run_bind,Sem.run_pure]
  cases base<;>rfl
 ·rw[if_neg hroom,if_neg hroom]
  have hcap:Builtin.nextslicecap (sLen+m) sCap*i.bytes≤2^48:=by
   have h1:=Pn (need:=sLen+m) (cap:=sCap) (by omega)
   have h2:Builtin.nextslicecap (sLen+m) sCap*i.bytes≤202*(sLen+m)*i.bytes:=Nat.mul_le_mul_right _ h1
   have h3:202*(sLen+m)*i.bytes=202*((sLen+m)*i.bytes):=Nat.mul_assoc _ _ _
   omega
  have hneed:sLen+m≤1099511627776:=Nat.le_trans (Nat.le_mul_of_pos_right _ hb) hbd
  have hmax:IntKind.i64.max=9223372036854775807:=rfl
  rw[if_neg (by rw[hmax];omega),if_neg (by omega)]
  simp only[run_choose,Question.forced,Question.cut,Bool.false_eq_true,if_false,Result.andThen_ok,run_askRoom]
  simp only[ho,hv',Result.andThen_ok,Bool.not_false,if_true,zeroValue,typeInfo,run_program,hi,hz,Sem.run_bind,Sem.run_pure,newRow,run_newObj]
  rfl
theorem Fc (zs:Array Value) (n:Nat):(Builtin.zeroCells zs n).size=n*zs.size:=by simp[Builtin.zeroCells]
theorem RN (s:Sim G h w) {size:Nat}{z:Value}{e:TypeId}(hzs:z.cells.size=size) (len m c:Nat) (cs xs:List AV) (old vs:List Value) (hc:len+m≤c) (r1:RepL G cs old) (r2:RepL G xs vs) (h1:cs.length=len*size) (h2:xs.length=m*size) (K:QT)
  (k:K (.sl h.length 0 (len+m) size) (h++[.cells (cs++xs)])):
  ∃ r h' G',Rep G' r (.slice (some ⟨w.heap.size,0,none⟩) (len+m) c)∧K r h'∧Sim G' h' (w.alloc (.cells (old.toArray++vs.toArray++Builtin.zeroCells z.cells (c-(len+m))) e))∧
    Evo G h w G' h' (w.alloc (.cells (old.toArray++vs.toArray++Builtin.zeroCells z.cells (c-(len+m))) e)):=by
 have hsz:(old.toArray++vs.toArray++Builtin.zeroCells z.cells (c-(len+m))).size=c*size:=by
  have e1:=r1.length
  have e2:=r2.length
  simp only[Array.size_append,List.size_toArray,Fc,hzs,e1,e2,h1,h2]
  rw[← Nat.add_mul,← Nat.add_mul,Nat.add_sub_cancel' hc]
 have hget:∀ (j:Nat) (v:Value),(old++vs)[j]?=some v→(old.toArray++vs.toArray++Builtin.zeroCells z.cells (c-(len+m)))[j]?=some v:=fun j v h3=>by
  have hj:j<(old++vs).length:=(List.getElem?_eq_some_iff.1 h3).1
  rw[Array.getElem?_append_left (by simpa using hj)]
  simpa using h3
 generalize (old.toArray++vs.toArray++Builtin.zeroCells z.cells (c-(len+m)))=A at hsz hget ⊢
 have le:=Gh.le_add s.fresh (w.heap.size,0) (c*size)
 have x:ObjAt (G.add h.length (w.heap.size,0) (c*size)) (w.alloc (.cells A e)) h.length (.cells (cs++xs)):=by
  refine⟨w.heap.size,0,A,e,0,0,by simp[Gh.add],?_,by omega,?_,?_,?_⟩
  ·show (w.heap.push _)[w.heap.size]?=_
   simp
  ·simp only[Gh.add,if_true,List.length_append,h1,h2,← Nat.add_mul]
   exact Nat.mul_le_mul_right _ hc
  ·simp only[Gh.add,if_true,hsz];omega
  ·intro j a ha
   obtain⟨v,h3,h4⟩:=(r1.append r2).at j a ha
   exact⟨v,by rw[Nat.zero_add];exact hget j v h3,Rep.mono le a v h4⟩
 obtain⟨s',ev⟩:=nU s _ (.cells (cs++xs)) (c*size) x
 refine⟨_,_,_,?_,k,s',ev⟩
 simp only[Rep]
 exact⟨w.heap.size,0,c,0,by simp[Gh.add],by simp[Gh.add],hc,fun _=>rfl,rfl⟩
theorem Qf (s:Sim G h w) {t t2 e ty:TypeId}{i:TypeInfo}{z:Value}(T:Gj P t t2 e i z) {v x:AV}{a b:Value}(hx:Rep G v a) (hy:Rep G x b) {K:QT}(k:kF i.size i.bytes v x h K):
  Ye P G h w (Builtin.append_ #[t,t2] ty #[a,b]) K:=by
 unfold kF at k
 split at k
 ·exact k.elim
 ·rename_i m xs hxs
  obtain⟨sd,evd⟩:=s.drawn (w.drawn+1)
  obtain⟨vs,hvl,hvr,hm,hv⟩:=m7 (P:=P) s hy hxs
  obtain⟨vs',hvl',hvr',_,hv'⟩:=m7 (P:=P) sd hy hxs
  have hxl:xs.length=m*i.size:=by rw[← hvl,hvr.length]
  split at k
  ·rename_i n cs
   obtain⟨⟨hcl,hbd⟩,k⟩:=k
   simp only[Rep]at hx
   have hbase:∃ base,a=.slice base n n∧((n=0∧cs=[])∨∃ bb o,base=some ⟨bb,o,none⟩∧RepAt G cs bb o):=by
    rcases hx with ⟨rfl,rfl,za,rfl⟩|⟨bb,o,rfl,h2⟩
    ·exact⟨za,rfl,.inl ⟨rfl,rfl⟩⟩
    ·exact⟨some ⟨bb,o,none⟩,rfl,.inr ⟨bb,o,rfl,h2⟩⟩
   obtain⟨base,rfl,hbase⟩:=hbase
   have hold:∃ old:List Value,RepL G cs old∧(Builtin.firstCells i.size n (.slice base n n)).run P { w with drawn:=w.drawn+1 }=.ok old.toArray { w with drawn:=w.drawn+1 }:=by
    obtain⟨old,o1,o2,_,o4⟩:=m7 (P:=P) (size:=i.size) sd (v:=.full n cs) (x:=.slice base n n) (by
     simp only[Rep]
     rcases hbase with ⟨rfl,rfl⟩|⟨bb,o,rfl,h2⟩
     ·exact .inl ⟨rfl,rfl,_,rfl⟩
     ·exact .inr ⟨bb,o,rfl,h2⟩) (m:=n) (xs:=cs) (by simp[dz,hcl])
    exact⟨old,o2,o4⟩
   obtain⟨old,ho1,ho2⟩:=hold
   have R:=EC (ty:=ty) T base n n m b vs vs' old hm hv hv' ho2 hbd
   by_cases hm0:m=0
   ·subst hm0
    rw[if_pos rfl]at k
    rw[if_pos (by omega)]at R
    have hvs:vs=[]:=by
     have:vs.length=0:=by simpa using hvl
     exact List.length_eq_zero_iff.1 this
    subst hvs
    refine⟨_,.slice base n n,h,G,w,?_,?_,k,s,Evo.refl _ _ _⟩
    ·rw[R]
     cases base<;>simp[storeCells]
    ·simp only[Rep]
     rcases hbase with ⟨rfl,rfl⟩|⟨bb,o,rfl,h2⟩
     ·exact .inl ⟨rfl,rfl,_,rfl⟩
     ·exact .inr ⟨bb,o,rfl,h2⟩
   ·rw[if_neg hm0]at k
    rw[if_neg (by omega)]at R
    obtain⟨r,h',G',q1,q2,q3,q4⟩:=RN sd (e:=e) T.hzs n m (n+m+(w.tape w.drawn (.appendCap (n+m) n e))%(2^63-(n+m))) cs xs old vs' (by omega) ho1 hvr' hcl hxl K k
    exact⟨r,_,h',G',_,R,q1,q2,q3,evd.trans q4⟩
  ·rename_i j off len sz
   split at k
   ·rename_i cs hcs
    obtain⟨⟨rfl,hcl,hone,hbd⟩,k⟩:=k
    simp only[Rep]at hx
    obtain⟨bb,o,c,ad,h1,h2,h3,h4,rfl⟩:=hx
    obtain⟨b',o',arr,el,lo,hi',e1,e2,e3,e4,e5,e6⟩:=ro s hcs
    rw[h1]at e1
    cases e1
    have hdl:(cs.drop off).length=len*i.size:=by simp;omega
    have hold:∃ old:List Value,RepL G (cs.drop off) old∧(Builtin.firstCells i.size len (.slice (some ⟨bb,ad,none⟩) len c)).run P { w with drawn:=w.drawn+1 }=.ok old.toArray { w with drawn:=w.drawn+1 }:=by
     obtain⟨old,o1,o2,_,o4⟩:=m7 (P:=P) (size:=i.size) sd (v:=.sl j off len i.size) (x:=.slice (some ⟨bb,ad,none⟩) len c) (by
      simp only[Rep];exact⟨bb,o,c,ad,h1,h2,h3,h4,rfl⟩) (m:=len) (xs:=(cs.drop off).take (len*i.size)) (by simp[dz,hcs];omega)
     rw[List.take_of_length_le (by omega)]at o2
     exact⟨old,o2,o4⟩
    obtain⟨old,ho1,ho2⟩:=hold
    have R:=EC (ty:=ty) T (some ⟨bb,ad,none⟩) len c m b vs vs' old hm hv hv' ho2 hbd
    by_cases hroom:len+m≤c
    ·rw[if_pos hroom]at R
     have hmul:len*i.size+m*i.size≤c*i.size:=by rw[← Nat.add_mul];exact Nat.mul_le_mul_right _ hroom
     have had:len=0∧m=0∧c=0∨ad=o+off:=by
      rcases Nat.eq_zero_or_pos c with hc0|hc0
      ·exact .inl ⟨by omega,by omega,hc0⟩
      ·exact .inr (h4 hc0)
     have hst:∃ arr':Array Value,(storeCells ((⟨bb,ad,none⟩:Addr).add (len*i.size)) vs).run P w=.ok () (dl w bb (.cells arr' el (lo,hi')))∧arr'.size=arr.size∧arr'.toList=splice arr.toList (o+cs.length) vs:=by
      rcases had with ⟨rfl,rfl,rfl⟩|rfl
      ·have hvs:vs=[]:=by
        have:vs.length=0:=by simpa using hvl
        exact List.length_eq_zero_iff.1 this
       subst hvs
       exact⟨arr,by simp[storeCells,qL w bb _ e2],rfl,by simp[splice]⟩
      ·obtain⟨arr',q1,q2⟩:=uu (P:=P) bb (o+off+len*i.size) el lo hi' vs 0 arr w e2 e3 (by omega) (Em hvr hone)
       refine⟨arr',by rw[dF];exact q1,?_,?_⟩
       ·have:=congrArg List.length q2
        rw[fL (by simp;omega)]at this
        simpa using this
       ·rw[q2];congr 1;omega
     obtain⟨arr',q1,q2,q3⟩:=hst
     have le:=Gh.le_add s.fresh (bb,o+off) (G.cap j-off)
     have x:ObjAt (G.add h.length (bb,o+off) (G.cap j-off)) (dl w bb (.cells arr' el (lo,hi'))) h.length (.cells (cs.drop off++xs)):=by
      refine⟨bb,o+off,arr',el,lo,hi',by simp[Gh.add],mI w bb _ (Array.getElem?_eq_some_iff.1 e2).1,by rw[q2];exact e3,?_,?_,?_⟩
      ·simp only[Gh.add,if_true,List.length_append,hdl,hxl];omega
      ·simp only[Gh.add,if_true,q2];omega
      ·intro p aa ha
       have hget:arr'[o+off+p]?=arr'.toList[o+off+p]?:=by simp
       rw[hget,q3,dB (by simp;omega)]
       by_cases hp:p<(cs.drop off).length
       ·rw[List.getElem?_append_left hp,List.getElem?_drop]at ha
        rw[if_pos (by simp at hp;omega)]
        obtain⟨v,h5,h6⟩:=e6 _ aa ha
        exact⟨v,by rw[Array.getElem?_toList,← h5];congr 1;omega,Rep.mono le aa v h6⟩
       ·rw[List.getElem?_append_right (by omega)]at ha
        rw[if_neg (by simp at hp;omega)]
        obtain⟨v,h5,h6⟩:=hvr.at _ aa ha
        have hpl:p-(cs.drop off).length<vs.length:=(List.getElem?_eq_some_iff.1 h5).1
        rw[if_pos (by simp at hp hpl;omega)]
        exact⟨v,by rw[← h5];congr 1;simp;omega,Rep.mono le aa v h6⟩
     obtain⟨s',ev⟩:=WK s hcs rfl h1 (o+off) (G.cap j-off) (.cells arr' el (lo,hi')) (.cells (cs.drop off++xs)) rfl x
     refine⟨_,.slice (some ⟨bb,ad,none⟩) (len+m) c,_,_,_,?_,?_,k,s',ev⟩
     ·rw[R]
      simp only[Sem.run_bind,q1,Result.andThen_ok,Sem.run_pure]
     ·simp only[Rep]
      refine⟨bb,o+off,c,ad,by simp[Gh.add],by simp[Gh.add];omega,hroom,fun hc0=>?_,rfl⟩
      rw[h4 hc0];rfl
    ·rw[if_neg hroom]at R
     obtain⟨s2,ev2⟩:=MP sd j
     have hlen2:(h.set j .dead).length=h.length:=by simp
     obtain⟨r,h',G',p1,p2,p3,p4⟩:=RN s2 (e:=e) T.hzs len m (len+m+(w.tape w.drawn (.appendCap (len+m) c e))%(2^63-(len+m))) (cs.drop off) xs old vs' (by omega) ho1 hvr' hdl hxl K (by rw[hlen2];exact k)
     exact⟨r,_,h',G',_,R,p1,p2,p3,(evd.trans ev2).trans p4⟩
   ·exact k.elim
  ·exact k.elim
end
end
section
variable [Tabs]
open Go.MapKept
section
variable {P:Program}{G:Gh}{h:ae}{w:World}
abbrev fF:=List (Value×Nat×AV)
def kOk:TypeDesc→Value→Bool
 | .string,.string _=>true
 | .int k,.int j _=>decide (j=k)
 | _,_=>false
def keq:Value→Value→Bool
 | .string a,.string b=>a==b
 | .int _ a,.int _ b=>a==b
 | _,_=>false
def lq (k:Value):fF→Nat→Option (Nat×Nat×AV)
 | [],_=>none
 | (k',n,v)::r,i=>if keq k k'=true then some (i,n,v) else lq k r (i+1)
def MT (k:Value) (v:AV) (clock:Nat) (es:fF):AObj:=
 match lq k es 0 with
 | some (i,n,_)=>.amap (es.set i (k,n,v)) clock
 | none=>.amap (es++[(k,clock,v)]) (clock+1)
theorem gp {d:TypeDesc}{k:Value}(h:kOk d k=true):IsKey d k:=by
 cases d<;>cases k<;>simp_all [kOk,IsKey]
theorem Gk {d:TypeDesc}{a b:Value}(ha:kOk d a=true) (hb:kOk d b=true):Instr.sameNow d a b=some (keq a b):=by
 cases d<;>cases a<;>cases b<;>simp_all [kOk,Instr.sameNow,keq]
theorem VG {d:TypeDesc}{a b:Value}(ha:kOk d a=true) (hb:kOk d b=true) (h:keq a b=true):a=b:=by
 obtain⟨r,h1,h2⟩:=sameNow_of_keys (gp ha) (gp hb)
 rw[Gk ha hb]at h1
 cases h1
 exact h2.1 h
theorem AZ {d:TypeDesc}{k:Value}(hk:kOk d k=true):∀ (es:fF) (l:List MapEntry) (i:Nat),RepE G es l→es.all (fun e=>kOk d e.1)=true→
  match lq k es i with
  | none=>Instr.findNow d k l i=some none
  | some (j,n,a)=>∃ e,Instr.findNow d k l i=some (some (j,e.val))∧i≤j∧l[j-i]?=some e∧e.born=n∧e.key=k∧Rep G a e.val∧es[j-i]?=some (k,n,a)
 | [],l,i,r,_=>by simp only[RepE]at r;subst r;simp[lq,Instr.findNow]
 | (k',n,a)::es,l,i,r,hf=>by
   simp only[RepE]at r
   obtain⟨e,rest,rfl,h1,h2,h3,h4⟩:=r
   simp only[List.all_cons,Bool.and_eq_true]at hf
   have hs:=Gk hk hf.1
   simp only[lq]
   by_cases hq:keq k k'=true
   ·rw[if_pos hq]
    have:=VG hk hf.1 hq
    subst this
    rw[hq]at hs
    exact⟨e,by simp only[Instr.findNow,h1,hs],Nat.le_refl _,by simp,h2,h1,h3,by simp⟩
   ·rw[if_neg hq]
    rw[show keq k k'=false by simpa using hq]at hs
    have ih:=AZ hk es rest (i+1) h4 hf.2
    have hstep:Instr.findNow d k (e::rest) i=Instr.findNow d k rest (i+1):=by simp only[Instr.findNow,h1,hs]
    rw[hstep]
    cases hm:lq k es (i+1) with
    | none=>rw[hm]at ih;exact ih
    | some p=>
      obtain⟨j,n',a'⟩:=p
      rw[hm]at ih
      obtain⟨e',q1,q2,q3,q4,q5,q6,q7⟩:=ih
      refine⟨e',q1,by omega,?_,q4,q5,q6,?_⟩
      ·rw[show j-i=(j-(i+1))+1 by omega];simpa using q3
      ·rw[show j-i=(j-(i+1))+1 by omega];simpa using q7
theorem RepE.at {G:Gh}:∀ {es:fF}{l:List MapEntry},RepE G es l→∀ (j:Nat) (k:Value) (n:Nat) (a:AV),es[j]?=some (k,n,a)→∃ e,l[j]?=some e∧e.key=k∧e.born=n∧Rep G a e.val
 | [],l,h,j,k,n,a,e=>by simp at e
 | (k',n',a')::es,l,h,j,k,n,a,e=>by
   simp only[RepE]at h
   obtain⟨x,r,rfl,h1,h2,h3,h4⟩:=h
   cases j with
   | zero=>simp at e;obtain⟨rfl,rfl,rfl⟩:=e;exact⟨x,by simp,h1,h2,h3⟩
   | succ j=>simpa using RepE.at h4 j k n a (by simpa using e)
theorem uv {G:Gh}:∀ {es:fF}{l:List MapEntry},l.length=es.length→(∀ (j:Nat) (k:Value) (n:Nat) (a:AV),es[j]?=some (k,n,a)→∃ e,l[j]?=some e∧e.key=k∧e.born=n∧Rep G a e.val)→RepE G es l
 | [],l,hl,_=>by simp only[RepE];simpa using hl
 | (k,n,a)::es,[],hl,_=>by simp at hl
 | (k,n,a)::es,x::l,hl,h=>by
   simp only[RepE]
   obtain⟨e,h1,h2,h3,h4⟩:=h 0 k n a (by simp)
   simp at h1;subst h1
   exact⟨x,l,rfl,h2,h3,h4,uv (by simpa using hl) fun j k n a e=>by simpa using h (j+1) k n a (by simpa using e)⟩
theorem RepE.append {G:Gh}{es fs:fF}{l m:List MapEntry}(h:RepE G es l) (k:RepE G fs m):RepE G (es++fs) (l++m):=
 uv (by simp[h.length,k.length]) fun j key n a e=>by
  by_cases hj:j<es.length
  ·rw[List.getElem?_append_left hj]at e
   rw[List.getElem?_append_left (by rw[h.length];exact hj)]
   exact h.at _ _ _ _ e
  ·rw[List.getElem?_append_right (by omega)]at e
   rw[List.getElem?_append_right (by rw[h.length];omega),h.length]
   exact k.at _ _ _ _ e
theorem RepE.eraseIdx {G:Gh}{es:fF}{l:List MapEntry}(h:RepE G es l) (i:Nat):RepE G (es.eraseIdx i) (l.eraseIdx i):=
 uv (by rw[List.length_eraseIdx,List.length_eraseIdx,h.length]) fun j key n a e=>by
  rw[List.getElem?_eraseIdx]at e ⊢
  split at e
  ·rename_i hj;rw[if_pos hj];exact h.at _ _ _ _ e
  ·rename_i hj;rw[if_neg hj];exact h.at _ _ _ _ e
theorem RepE.set {G:Gh}{es:fF}{arr:Array MapEntry}(h:RepE G es arr.toList) (i:Nat) (k:Value) (n:Nat) (a:AV) (f:MapEntry→MapEntry) (hf:∀ e,arr[i]?=some e→(f e).key=k∧(f e).born=n∧Rep G a (f e).val):RepE G (es.set i (k,n,a)) (arr.modify i f).toList:=
 uv (by simp[← h.length]) fun j key m b e=>by
  rw[Array.getElem?_toList,Array.getElem?_modify]
  rw[List.getElem?_set]at e
  by_cases hij:i=j
  ·subst hij
   simp only[if_true]at e ⊢
   split at e
   ·rename_i hlt
    have hl:=h.length
    obtain⟨x,hx⟩:∃ x,arr[i]?=some x:=⟨arr[i]'(by simp at hl;omega),by simp⟩
    cases e
    obtain⟨q1,q2,q3⟩:=hf x hx
    exact⟨f x,by simp[hx],q1,q2,q3⟩
   ·cases e
  ·rw[if_neg hij]at e
   simp only[if_neg hij]
   obtain⟨x,h1,h2⟩:=h.at _ _ _ _ e
   exact⟨x,by simpa using h1,h2⟩
theorem jp (s:Sim G h w) {i:Nat}{es:fF}{clock:Nat}(hi:h[i]?=some (.amap es clock)):∃ b arr,G.loc i=some (b,0)∧w.heap[b]?=some (.map arr clock)∧RepE G es arr.toList:=s.obj i _ hi
def jC (d:TypeDesc) (ok:Bool) (z x key:AV) (h:ae) (K:AV→Prop):Prop:=
 match key with
 | .lit k=>match x with
   | .lit (.map none)=>if kOk d k=true then K (if ok then .tup [z,B false] else z) else False
   | .map i=>match h[i]? with
     | some (.amap es _)=>if (kOk d k&&es.all fun e=>kOk d e.1)=true then (match lq k es 0 with
       | some (_,_,v)=>K (if ok then .tup [v,B true] else v)
       | none=>K (if ok then .tup [z,B false] else z)) else False
     | _=>False
   | _=>False
 | _=>False
theorem yx {t:TypeId}{i:TypeInfo}{z:Value}(hi:P.info? t=some i) (hz:i.zero=some z):(zeroValue t).run P w=.ok z w:=by
 simp only[zeroValue,typeInfo,Sem.run_bind,run_program,Result.andThen_ok,hi,Sem.run_pure,hz]
theorem Pj (s:Sim G h w) {t kt et:TypeId}{d:TypeDesc}{i:TypeInfo}{z:Value}{ok:Bool}(ht:P.underlying t=some (.map kt et)) (hd:P.underlying kt=some d) (hi:P.info? et=some i) (hz:i.zero=some z) (hzo:okV z=true)
  {x key:AV} {xv kv:Value} (hx:Rep G x xv) (hk:Rep G key kv) {K:AV→Prop} (k:jC d ok (ofV z) x key h K):Yl P G w (Instr.lookup t xv kv ok) K:=by
 have hzr:=yx (P:=P) (w:=w) hi hz
 have pair:∀ {a:AV} {v:Value} (b:Bool),Rep G a v→Rep G (if ok then .tup [a,B b] else a) (if ok then .tuple #[v,.bool b] else v):=fun b r=>by
  cases ok
  ·exact r
  ·simp only[if_true,Rep,RepL]
   exact⟨_,rfl,_,_,rfl,r,_,_,rfl,⟨rfl,rfl⟩,rfl⟩
 unfold jC at k
 split at k
 ·rename_i kk
  simp only[Rep]at hk
  obtain⟨rfl,_⟩:=hk
  split at k
  ·split at k
   ·rename_i hkk
    simp only[Rep]at hx
    obtain⟨rfl,_⟩:=hx
    refine⟨_,_,?_,pair false (qI G z hzo),k⟩
    simp only[Instr.lookup,Sem.run_bind,run_underlying ht,Result.andThen_ok,Sem.run_pure,run_checkKey hd (gp hkk),run_findKey hd (show Instr.findNow d kv [] 0=some none from rfl),hzr]
   ·exact k.elim
  ·rename_i j
   split at k
   ·rename_i es clock hes
    split at k
    ·rename_i hall
     simp only[Bool.and_eq_true]at hall
     simp only[Rep]at hx
     obtain⟨b,h1,rfl⟩:=hx
     obtain⟨b',arr,e1,e2,e3⟩:=jp s hes
     rw[h1]at e1;cases e1
     have hf:=AZ hall.1 es arr.toList 0 e3 hall.2
     split at k
     ·rename_i q n v hm
      simp only[hm]at hf
      obtain⟨e,q1,_,q3,q4,q5,q6,_⟩:=hf
      refine⟨_,_,?_,pair true q6,k⟩
      simp only[Instr.lookup,Sem.run_bind,run_underlying ht,Result.andThen_ok,Sem.run_pure,run_getObj_map e2,run_checkKey hd (gp hall.1),run_findKey hd q1]
     ·rename_i hm
      simp only[hm]at hf
      refine⟨_,_,?_,pair false (qI G z hzo),k⟩
      simp only[Instr.lookup,Sem.run_bind,run_underlying ht,Result.andThen_ok,Sem.run_pure,run_getObj_map e2,run_checkKey hd (gp hall.1),run_findKey hd hf,hzr]
    ·exact k.elim
   ·exact k.elim
  ·exact k.elim
 ·exact k.elim
theorem wW (s:Sim G h w) {i:Nat}{es es':fF}{clock clock':Nat}(hi:h[i]?=some (.amap es clock)) {b:Nat}(hl:G.loc i=some (b,0)) (arr':Array MapEntry) (hr:RepE G es' arr'.toList):
  Sim G (h.set i (.amap es' clock')) { w with heap:=w.heap.setIfInBounds b (.map arr' clock') }∧Evo G h w G (h.set i (.amap es' clock')) { w with heap:=w.heap.setIfInBounds b (.map arr' clock') }:=by
 obtain⟨b',arr,e1,e2,e3⟩:=jp s hi
 rw[hl]at e1;cases e1
 exact vV s hi rfl hl rfl ⟨b,arr',hl,mI w b _ (Array.getElem?_eq_some_iff.1 e2).1,hr⟩
def g7 (d:TypeDesc) (x key v:AV) (h:ae) (K:ae→Prop):Prop:=
 match key,x with
 | .lit k,.map i=>(match h[i]? with
   | some (.amap es clock)=>if (kOk d k&&es.all fun e=>kOk d e.1)=true then K (h.set i (MT k v clock es)) else False
   | _=>False)
 | _,_=>False
theorem On {k:Value}{n:Nat}{a:AV}{v:Value}(r:Rep G a v):RepE G [(k,n,a)] [{ key:=k,val:=v,born:=n }]:=by
 simp only[RepE];exact⟨_,_,rfl,rfl,rfl,r,rfl⟩
theorem yq (s:Sim G h w) {t kt et:TypeId}{d:TypeDesc}(ht:P.underlying t=some (.map kt et)) (hd:P.underlying kt=some d) {x key v:AV}{xv kv vv:Value}(hx:Rep G x xv) (hk:Rep G key kv) (hv:Rep G v vv) {K:ae→Prop}(k:g7 d x key v h K):
  ∃ h' G' w',(Instr.mapUpdate t xv kv vv).run P w=.ok () w'∧K h'∧Sim G' h' w'∧Evo G h w G' h' w':=by
 unfold g7 at k
 split at k
 ·rename_i kk i
  split at k
  ·rename_i es clock hes
   split at k
   ·rename_i hall
    simp only[Bool.and_eq_true]at hall
    simp only[Rep]at hx hk
    obtain⟨rfl,_⟩:=hk
    obtain⟨b,h1,rfl⟩:=hx
    obtain⟨b',arr,e1,e2,e3⟩:=jp s hes
    rw[h1]at e1;cases e1
    have hf:=AZ hall.1 es arr.toList 0 e3 hall.2
    have hkk:=gp hall.1
    unfold MT at k
    split at k
    ·rename_i q n v0 hm
     simp only[hm]at hf
     obtain⟨e,q1,_,q3,q4,q5,q6,_⟩:=hf
     have q3':arr[q]?=some e:=by simpa using q3
     obtain⟨s',ev⟩:=wW (clock':=clock) s hes h1 (arr.modify q fun e=>{ e with key:=kv,val:=vv }) (e3.set q kv n v _ fun e' he'=>by
      rw[q3']at he';cases he';exact⟨rfl,q4,hv⟩)
     refine⟨_,_,_,?_,k,s',ev⟩
     simp only[Instr.mapUpdate,Sem.run_bind,run_underlying ht,Result.andThen_ok,run_getObj_map e2,run_checkKey hd hkk,run_findKey hd q1,q3',Option.map_some,Option.getD_some,q5,run_keyThatStays hkk,run_setObj_map _ e2]
    ·rename_i hm
     simp only[hm]at hf
     obtain⟨s',ev⟩:=wW (clock':=clock+1) (es':=es++[(kv,clock,v)]) s hes h1 (arr.push { key:=kv,val:=vv,born:=clock }) (by rw[Array.toList_push];exact e3.append (On hv))
     refine⟨_,_,_,?_,k,s',ev⟩
     simp only[Instr.mapUpdate,Sem.run_bind,run_underlying ht,Result.andThen_ok,run_getObj_map e2,run_checkKey hd hkk,run_findKey hd hf,run_setObj_map _ e2]
   ·exact k.elim
  ·exact k.elim
 ·exact k.elim
def jw (d:TypeDesc) (z x key:AV) (h:ae) (K:QT):Prop:=
 match key,x with
 | .lit k,.map i=>(match h[i]? with
   | some (.amap es clock)=>if (kOk d k&&es.all fun e=>kOk d e.1)=true then (match lq k es 0 with
     | some (_,n,v)=>K (.tup [v,I n]) h
     | none=>K (.tup [z,I clock]) (h.set i (.amap (es++[(k,clock,z)]) (clock+1)))) else False
   | _=>False)
 | _,_=>False
theorem OG {arr:Array MapEntry}{q:Nat}{e:MapEntry}{f:MapEntry→MapEntry}(h:arr[q]?=some e) (hf:f e=e):arr.modify q f=arr:=by
 apply Array.ext_getElem?
 intro i
 rw[Array.getElem?_modify]
 split
 ·rename_i hi;subst hi;simp[h,hf]
 ·rfl
theorem J2 (s:Sim G h w) {t kt et:TypeId}{d:TypeDesc}{i:TypeInfo}{z:Value}(ht:P.underlying t=some (.map kt et)) (hd:P.underlying kt=some d) (hi:P.info? et=some i) (hz:i.zero=some z) (hzo:okV z=true)
  {x key:AV} {xv kv:Value} (hx:Rep G x xv) (hk:Rep G key kv) {K:QT} (k:jw d (ofV z) x key h K):Ye P G h w (Instr.mapEntry t xv kv) K:=by
 have hzr:=yx (P:=P) (w:=w) hi hz
 unfold jw at k
 split at k
 ·rename_i kk j
  split at k
  ·rename_i es clock hes
   split at k
   ·rename_i hall
    simp only[Bool.and_eq_true]at hall
    simp only[Rep]at hx hk
    obtain⟨rfl,_⟩:=hk
    obtain⟨b,h1,rfl⟩:=hx
    obtain⟨b',arr,e1,e2,e3⟩:=jp s hes
    rw[h1]at e1;cases e1
    have hf:=AZ hall.1 es arr.toList 0 e3 hall.2
    have hkk:=gp hall.1
    split at k
    ·rename_i q n v0 hm
     simp only[hm]at hf
     obtain⟨e,q1,_,q3,q4,q5,q6,_⟩:=hf
     have q3':arr[q]?=some e:=by simpa using q3
     have hse:(arr.modify q fun e=>{ e with key:=kv })=arr:=OG q3' (by rw[← q5])
     refine⟨_,.tuple #[e.val,.int .i64 n],h,G,w,?_,?_,k,s,Evo.refl _ _ _⟩
     ·simp only[Instr.mapEntry,Sem.run_bind,run_underlying ht,Result.andThen_ok,run_getObj_map e2,run_checkKey hd hkk,run_findKey hd q1,q3',Option.map_some,Option.getD_some,q5,run_keyThatStays hkk,run_setObj_map _ e2,hse,Sem.run_pure]
      rw[show w.heap.setIfInBounds b (.map arr clock)=w.heap from by
       have:=qL w b _ e2;exact congrArg World.heap this]
      simp[goInt,q4]
     ·simp only[Rep,RepL]
      exact⟨_,rfl,_,_,rfl,q6,_,_,rfl,⟨rfl,rfl⟩,rfl⟩
    ·rename_i hm
     simp only[hm]at hf
     obtain⟨s',ev⟩:=wW (clock':=clock+1) (es':=es++[(kv,clock,ofV z)]) s hes h1 (arr.push { key:=kv,val:=z,born:=clock }) (by rw[Array.toList_push];exact e3.append (On (qI G z hzo)))
     refine⟨_,.tuple #[z,.int .i64 clock],_,_,_,?_,?_,k,s',ev⟩
     ·simp only[Instr.mapEntry,Sem.run_bind,run_underlying ht,Result.andThen_ok,run_getObj_map e2,run_checkKey hd hkk,run_findKey hd hf,hzr,run_setObj_map _ e2,Sem.run_pure]
      rfl
     ·simp only[Rep,RepL]
      exact⟨_,rfl,_,_,rfl,qI G z hzo,_,_,rfl,⟨rfl,rfl⟩,rfl⟩
   ·exact k.elim
  ·exact k.elim
 ·exact k.elim
def ue (n:Int):fF→Nat→Option (Nat×Value×Nat)
 | [],_=>none
 | (k,b,_)::r,i=>if ((b:Int)==n)=true then some (i,k,b) else ue n r (i+1)
def fJ (x st v:AV) (h:ae) (K:ae→Prop):Prop:=
 match st,x with
 | .lit (.int .i64 n),.map i=>(match h[i]? with
   | some (.amap es clock)=>(match ue n es 0 with
     | some (j,k,b)=>K (h.set i (.amap (es.set j (k,b,v)) clock))
     | none=>False)
   | _=>False)
 | _,_=>False
theorem Jn {n:Int}:∀ {es:fF}{l:List MapEntry}{i:Nat},RepE G es l→∀ {j:Nat}{k:Value}{b:Nat},ue n es i=some (j,k,b)→
  l.findIdx? (fun e=>(e.born:Int)==n)=some (j-i)∧i≤j∧∃ e,l[j-i]?=some e∧e.key=k∧e.born=b
 | [],l,i,r,j,k,b,h=>by simp[ue]at h
 | (k',b',a)::es,l,i,r,j,k,b,h=>by
   simp only[RepE]at r
   obtain⟨e,rest,rfl,h1,h2,h3,h4⟩:=r
   simp only[ue]at h
   by_cases hq:((b':Int)==n)=true
   ·rw[if_pos hq]at h
    cases h
    rw[← h2]at hq
    exact⟨by simp[List.findIdx?_cons,hq],Nat.le_refl _,e,by simp,h1,h2⟩
   ·rw[if_neg hq]at h
    obtain⟨q1,q2,e',q3,q4⟩:=Jn h4 h
    rw[← h2]at hq
    refine⟨?_,by omega,e',?_,q4⟩
    ·rw[List.findIdx?_cons,if_neg hq,q1]
     simp;omega
    ·rw[show j-i=(j-(i+1))+1 by omega];simpa using q3
theorem FN (s:Sim G h w) {t:TypeId}{x st v:AV}{xv sv vv:Value}(hx:Rep G x xv) (hs:Rep G st sv) (hv:Rep G v vv) {K:ae→Prop}(k:fJ x st v h K):
  ∃ h' G' w',(Instr.entryStore t xv sv vv).run P w=.ok () w'∧K h'∧Sim G' h' w'∧Evo G h w G' h' w':=by
 unfold fJ at k
 split at k
 ·rename_i n i
  split at k
  ·rename_i es clock hes
   split at k
   ·rename_i j kk b0 hb0
    simp only[Rep]at hx hs
    obtain⟨rfl,_⟩:=hs
    obtain⟨b,h1,rfl⟩:=hx
    obtain⟨b',arr,e1,e2,e3⟩:=jp s hes
    rw[h1]at e1;cases e1
    obtain⟨q1,_,e,q3,q4,q5⟩:=Jn e3 hb0
    have q3':arr[j]?=some e:=by simpa using q3
    have q1':arr.findIdx? (fun e=>(e.born:Int)==n)=some j:=by

     clear e2 q3 q3' e3
     obtain⟨l⟩:=arr
     simpa using q1
    obtain⟨s',ev⟩:=wW (clock':=clock) s hes h1 (arr.modify j fun e=>{ e with val:=vv }) (e3.set j kk b0 v _ fun e' he'=>by
     rw[q3']at he';cases he';exact⟨q4,q5,hv⟩)
    refine⟨_,_,_,?_,k,s',ev⟩
    simp only[Instr.entryStore,Sem.run_bind,run_getObj_map e2,Result.andThen_ok,asInt,asIntOf,Sem.run_pure,q1',run_setObj_map _ e2]
   ·exact k.elim
  ·exact k.elim
 ·exact k.elim
def qw (d:TypeDesc) (x key:AV) (h:ae) (K:ae→Prop):Prop:=
 match key with
 | .lit k=>match x with
   | .lit (.map none)=>if kOk d k=true then K h else False
   | .map i=>(match h[i]? with
     | some (.amap es clock)=>if (kOk d k&&es.all fun e=>kOk d e.1)=true then (match lq k es 0 with
       | some (j,_,_)=>K (h.set i (.amap (es.eraseIdx j) clock))
       | none=>K h) else False
     | _=>False)
   | _=>False
 | _=>False
theorem QP (s:Sim G h w) {t kt et ty:TypeId}{d:TypeDesc}(ht:P.underlying t=some (.map kt et)) (hd:P.underlying kt=some d) {x key:AV}{xv kv:Value}(hx:Rep G x xv) (hk:Rep G key kv) {ts:Array TypeId}(hts:ts[0]?=some t) {K:ae→Prop}(k:qw d x key h K):
  Ye P G h w (Builtin.delete_ ts ty #[xv,kv]) fun r h'=>r=.tup []∧K h':=by
 unfold qw at k
 split at k
 ·rename_i kk
  simp only[Rep]at hk
  obtain⟨rfl,_⟩:=hk
  split at k
  ·split at k
   ·rename_i hkk
    simp only[Rep]at hx
    obtain⟨rfl,_⟩:=hx
    refine⟨.tup [],.tuple #[],h,G,w,?_,by simp[Rep,RepL],⟨rfl,k⟩,s,Evo.refl _ _ _⟩
    simp[Builtin.delete_,hts,run_underlying ht,run_checkKey hd (gp hkk)]
   ·exact k.elim
  ·rename_i i
   split at k
   ·rename_i es clock hes
    split at k
    ·rename_i hall
     simp only[Bool.and_eq_true]at hall
     simp only[Rep]at hx
     obtain⟨b,h1,rfl⟩:=hx
     obtain⟨b',arr,e1,e2,e3⟩:=jp s hes
     rw[h1]at e1;cases e1
     have hf:=AZ hall.1 es arr.toList 0 e3 hall.2
     have hkk:=gp hall.1
     split at k
     ·rename_i q n v0 hm
      simp only[hm]at hf
      obtain⟨e,q1,_,q3,q4,q5,q6,_⟩:=hf
      have q3':arr[q]?=some e:=by simpa using q3
      have hlt:q<arr.size:=(Array.getElem?_eq_some_iff.1 q3').1
      obtain⟨s',ev⟩:=wW (clock':=clock) (es':=es.eraseIdx q) s hes h1 (arr.eraseIdxIfInBounds q) (by
       unfold Array.eraseIdxIfInBounds
       rw[dif_pos hlt]
       simp only[Array.toList_eraseIdx]
       exact e3.eraseIdx q)
      refine⟨.tup [],.tuple #[],_,_,_,?_,by simp[Rep,RepL],⟨rfl,k⟩,s',ev⟩
      simp[Builtin.delete_,hts,run_underlying ht,run_getObj_map e2,run_checkKey hd hkk,run_findKey hd q1,run_setObj_map _ e2]
     ·rename_i hm
      simp only[hm]at hf
      refine⟨.tup [],.tuple #[],h,G,w,?_,by simp[Rep,RepL],⟨rfl,k⟩,s,Evo.refl _ _ _⟩
      simp[Builtin.delete_,hts,run_underlying ht,run_getObj_map e2,run_checkKey hd hkk,run_findKey hd hf,run_setObj_map _ e2]
      have:=qL w b _ e2
      exact this
    ·exact k.elim
   ·exact k.elim
  ·exact k.elim
 ·exact k.elim
def tl (h:ae) (K:QT):Prop:=K (.map h.length) (h++[.amap [] 0])
theorem Nj (s:Sim G h w) {t:TypeId}{K:QT}(k:tl h K):Ye P G h w (Instr.makeMap t none) K:=by
 obtain⟨s',ev⟩:=nU s (.map #[] 0) (.amap [] 0) 0 ⟨w.heap.size,#[],by simp[Gh.add],by show (w.heap.push _)[w.heap.size]?=_;simp,by simp[RepE]⟩
 refine⟨_,.map (some w.heap.size),_,_,_,?_,?_,k,s',ev⟩
 ·simp[Instr.makeMap]
 ·simp only[Rep]
  exact⟨_,by simp[Gh.add],rfl⟩
def rc (x:AV) (h:ae) (K:QT):Prop:=
 match x with
 | .lit (.string s)=>K (.ptr h.length 0) (h++[.siter s 0])
 | _=>False
theorem PB (s:Sim G h w) {t:TypeId}(ht:P.underlying t=some .string) {x:AV}{xv:Value}(hx:Rep G x xv) {K:QT}(k:rc x h K):Ye P G h w (Instr.range t xv) K:=by
 unfold rc at k
 split at k
 ·rename_i str
  simp only[Rep]at hx
  obtain⟨rfl,_⟩:=hx
  obtain⟨s',ev⟩:=nU s (.stringIter str 0) (.siter str 0) 0 ⟨w.heap.size,by simp[Gh.add],by show (w.heap.push _)[w.heap.size]?=_;simp⟩
  refine⟨_,.pointer (some ⟨w.heap.size,0,none⟩),_,_,_,?_,?_,k,s',ev⟩
  ·simp[Instr.range,run_underlying ht]
  ·simp only[Rep]
   exact⟨_,0,by simp[Gh.add],rfl⟩
 ·exact k.elim
def uZ (x:AV) (h:ae) (K:QT):Prop:=
 match x with
 | .ptr i 0=>(match h[i]? with
   | some (.siter s pos)=>if pos<s.size then K (.tup [B true,I pos,.lit (.int .i32 (Utf8.decode s pos).1)]) (h.set i (.siter s (pos+(Utf8.decode s pos).2))) else K (.tup [B false]) h
   | _=>False)
 | _=>False
theorem Tt (s:Sim G h w) {t:TypeId}{x:AV}{xv:Value}(hx:Rep G x xv) {K:QT}(k:uZ x h K):Ye P G h w (Instr.next xv true t) K:=by
 unfold uZ at k
 split at k
 ·rename_i i
  split at k
  ·rename_i str pos hes
   simp only[Rep]at hx
   obtain⟨b,o,h1,rfl⟩:=hx
   obtain⟨b',e1,e2⟩:=s.obj _ _ hes
   rw[h1]at e1;cases e1
   have hg:(getObj b).run P w=.ok (.stringIter str pos) w:=by simp[getObj,Sem.run,e2]
   split at k
   ·rename_i hlt
    obtain⟨s',ev⟩:=vV (ob:=.stringIter str (pos+(Utf8.decode str pos).2)) (o':=.siter str (pos+(Utf8.decode str pos).2)) s hes rfl h1 rfl ⟨b,h1,mI w b _ (Array.getElem?_eq_some_iff.1 e2).1⟩
    refine⟨_,.tuple #[.bool true,goInt pos,.int .i32 (Utf8.decode str pos).1],_,_,_,?_,?_,k,s',ev⟩
    ·simp only[Instr.next,Nat.add_zero,Sem.run_bind,hg,Result.andThen_ok,hlt,if_true]
     simp[setObj,Sem.run,e2,dl]
    ·simp only[Rep,RepL]
     exact⟨_,rfl,_,_,rfl,⟨rfl,rfl⟩,_,_,rfl,⟨rfl,rfl⟩,_,_,rfl,⟨rfl,rfl⟩,rfl⟩
   ·rename_i hlt
    refine⟨_,.tuple #[.bool false],_,_,_,?_,?_,k,s,Evo.refl _ _ _⟩
    ·simp only[Instr.next,Nat.add_zero,Sem.run_bind,hg,Result.andThen_ok,hlt,if_false,Sem.run_pure]
    ·simp only[Rep,RepL]
     exact⟨_,rfl,_,_,rfl,⟨rfl,rfl⟩,rfl⟩
  ·exact k.elim
 ·exact k.elim
end
end
section
variable [Tabs]
open Go.MapKept
section
variable {P:Program}{G:Gh}{h:ae}{w:World}
def pm (x:AV) (h:ae) (K:QT):Prop:=
 match x with
 | .lit (.map none)=>K (.ptr h.length 0) (h++[.miter none 0 [] 0])
 | .map i=>(match h[i]? with
   | some (.amap es clock)=>K (.ptr h.length 0) (h++[.miter (some i) clock [] clock])
   | _=>False)
 | _=>False
theorem Pb (s:Sim G h w) {t kt et:TypeId}(ht:P.underlying t=some (.map kt et)) {x:AV}{xv:Value}(hx:Rep G x xv) {K:QT}(k:pm x h K):Ye P G h w (Instr.range t xv) K:=by
 unfold pm at k
 split at k
 ·simp only[Rep]at hx
  obtain⟨rfl,_⟩:=hx
  obtain⟨s',ev⟩:=nU s (.mapIter none 0 #[] 0) (.miter none 0 [] 0) 0 ⟨w.heap.size,none,by simp[Gh.add],by show (w.heap.push _)[w.heap.size]?=_;simp,rfl⟩
  refine⟨_,.pointer (some ⟨w.heap.size,0,none⟩),_,_,_,?_,?_,k,s',ev⟩
  ·simp[Instr.range,run_underlying ht]
  ·simp only[Rep]
   exact⟨_,0,by simp[Gh.add],rfl⟩
 ·rename_i i
  split at k
  ·rename_i es clock hes
   simp only[Rep]at hx
   obtain⟨b,h1,rfl⟩:=hx
   obtain⟨b',arr,e1,e2,e3⟩:=jp s hes
   rw[h1]at e1;cases e1
   have le:=Gh.le_add s.fresh (w.heap.size,0) 0
   obtain⟨s',ev⟩:=nU s (.mapIter (some b) clock #[] clock) (.miter (some i) clock [] clock) 0 ⟨w.heap.size,some b,by simp[Gh.add],by show (w.heap.push _)[w.heap.size]?=_;simp,b,le.loc _ _ h1,rfl⟩
   refine⟨_,.pointer (some ⟨w.heap.size,0,none⟩),_,_,_,?_,?_,k,s',ev⟩
   ·simp[Instr.range,run_underlying ht,run_getObj_map e2]
   ·simp only[Rep]
    exact⟨_,0,by simp[Gh.add],rfl⟩
  ·exact k.elim
 ·exact k.elim
def uL (x:AV) (h:ae) (K:QT):Prop:=
 match x with
 | .ptr i 0=>(match h[i]? with
   | some (.miter none _ _ _)=>K (.tup [B false]) h
   | some (.miter (some j) since seen last)=>(match h[j]? with
     | some (.amap es clock)=>
       ((es.all fun e=>e.1.oneCell')=true∧(!seen.isEmpty&&!es.isEmpty&&es.all fun e=>decide (e.2.1≥last))=false)∧
       ((∀ e∈es,e.2.1∈seen∨since≤e.2.1)→K (.tup [B false]) h)∧
       ∀ e∈es,e.2.1∉seen→K (.tup [B true,.lit e.1,e.2.2]) (h.set i (.miter (some j) since (seen++[e.2.1]) clock))
     | _=>False)
   | _=>False)
 | _=>False
theorem WD {es:fF}{l:List MapEntry}(r:RepE G es l) {e:MapEntry}(he:e∈l):∃ a,(e.key,e.born,a)∈es∧Rep G a e.val:=by
 obtain⟨j,hj⟩:=List.mem_iff_getElem?.1 he
 have hlt:j<es.length:=by rw[← r.length];exact (List.getElem?_eq_some_iff.1 hj).1
 obtain⟨e',q1,q2,q3,q4⟩:=r.at j es[j].1 es[j].2.1 es[j].2.2 (List.getElem?_eq_getElem hlt)
 rw[hj]at q1;cases q1
 exact⟨es[j].2.2,by rw[q2,q3];exact List.getElem_mem hlt,q4⟩
theorem Xa {es:fF}{l:List MapEntry}(r:RepE G es l) (f:Nat→Bool):l.all (fun e=>f e.born)=es.all (fun e=>f e.2.1):=by
 induction es generalizing l with
 | nil=>unfold RepE at r;subst r;rfl
 | cons x es ih=>
   obtain⟨k,n,a⟩:=x
   unfold RepE at r
   obtain⟨e,rest,rfl,h1,h2,h3,h4⟩:=r
   simp only[List.all_cons,h2,ih h4]
theorem Uu (s:Sim G h w) {t:TypeId}{x:AV}{xv:Value}(hx:Rep G x xv) {K:QT}(k:uL x h K):Ye P G h w (Instr.next xv false t) K:=by
 unfold uL at k
 split at k
 ·rename_i i
  have over:∀ {w':World},Sim G h w'→Evo G h w G h w'→(Instr.next xv false t).run P w=.ok (.tuple #[.bool false]) w'→K (.tup [B false]) h→Ye P G h w (Instr.next xv false t) K:=fun {w'} s' ev hr k=>
   ⟨_,_,h,G,w',hr,by simp only[Rep,RepL];exact⟨_,rfl,_,_,rfl,⟨rfl,rfl⟩,rfl⟩,k,s',ev⟩
  simp only[Rep]at hx
  obtain⟨b,o,h1,rfl⟩:=hx
  split at k
  ·rename_i c1 c2 c3 hes
   obtain⟨b',mb,e1,e2,rfl⟩:=s.obj _ _ hes
   rw[h1]at e1;cases e1
   refine over s (Evo.refl _ _ _) ?_ k
   have hg:(getObj b).run P w=.ok (.mapIter none c1 c2.toArray c3) w:=by simp[getObj,Sem.run,e2]
   simp only[Instr.next,Nat.add_zero,Sem.run_bind,hg,Result.andThen_ok,Sem.run_pure]
  ·rename_i j since seen last hes
   split at k
   ·rename_i es clock hm
    obtain⟨⟨hone,hgone⟩,k0,k1⟩:=k
    obtain⟨b',mb,e1,e2,q,hq,rfl⟩:=s.obj _ _ hes
    rw[h1]at e1;cases e1
    obtain⟨q',arr,e4,e5,e6⟩:=jp s hm
    rw[hq]at e4;cases e4
    have hg:(getObj b).run P w=.ok (.mapIter (some q) since seen.toArray last) w:=by simp[getObj,Sem.run,e2]
    have hg2:(getObj q).run P w=.ok (.map arr clock) w:=run_getObj_map e5
    have hemp:arr.isEmpty=es.isEmpty:=by
     rw[← Array.isEmpty_toList]
     have hl2:=e6.length
     generalize arr.toList=l at hl2
     cases es with
     | nil=>cases l with|nil=>rfl|cons y l=>simp at hl2
     | cons x es=>cases l with|nil=>simp at hl2|cons y l=>rfl
    have hcond:(!seen.toArray.isEmpty&&!arr.isEmpty&&arr.all (·.born≥last))=false:=by
     rw[← Array.all_toList,Xa e6 (fun n=>decide (n≥last)),hemp]
     simpa using hgone
    generalize hcs:((if ((arr.filter fun e=>!seen.toArray.contains e.born).filter (·.born<since)).isEmpty then #[none] else #[])++(((arr.filter fun e=>!seen.toArray.contains e.born).filter (·.born<since))++((arr.filter fun e=>!seen.toArray.contains e.born).filter (·.born≥since))).map some:Array (Option MapEntry))=cs
    have hpos:0<cs.size:=by
     subst hcs
     split
     ·simp;omega
     ·rename_i hne
      rw[Array.isEmpty_iff]at hne
      have:0<((arr.filter fun e=>!seen.toArray.contains e.born).filter (·.born<since)).size:=Nat.pos_of_ne_zero fun e=>hne (by simpa using e)
      simp only[Array.size_append,Array.size_map];omega
    have hcase:∀ c∈cs,(c=none∧∀ e∈es,e.2.1∈seen∨since≤e.2.1)∨∃ e,c=some e∧e∈arr∧e.born∉seen:=by
     subst hcs
     intro c hc
     rcases Array.mem_append.1 hc with hc|hc
     ·split at hc
      ·rename_i hne
       left
       refine⟨by simpa using hc,fun e he=>?_⟩
       by_cases h1:e.2.1∈seen
       ·exact .inl h1
       ·refine .inr (Nat.le_of_not_lt fun hlt=>?_)
        obtain⟨jj,hj⟩:=List.mem_iff_getElem?.1 he
        obtain⟨e',q1,q2,q3,q4⟩:=e6.at jj e.1 e.2.1 e.2.2 hj
        simp only[Array.isEmpty_iff]at hne
        have:e'∈((arr.filter fun e=>!seen.toArray.contains e.born).filter (·.born<since)):=by
         simp only[Array.mem_filter,q3]
         refine⟨⟨Array.mem_of_getElem? (by simpa using q1),by simpa using h1⟩,by simpa using hlt⟩
        rw[hne]at this
        simp at this
      ·simp at hc
     ·obtain⟨e,he,rfl⟩:=Array.mem_map.1 hc
      right
      refine⟨e,rfl,?_⟩
      rcases Array.mem_append.1 he with he|he
      ·simp only[Array.mem_filter]at he;exact⟨he.1.1,by simpa using he.1.2⟩
      ·simp only[Array.mem_filter]at he;exact⟨he.1.1,by simpa using he.1.2⟩
    have hdraw:∃ idx w',(choose (.mapNext cs.size)).run P w=.ok idx w'∧idx<cs.size∧(w'=w∨w'={ w with drawn:=w.drawn+1 }):=by
     rw[run_choose]
     split
     ·exact⟨0,w,rfl,hpos,.inl rfl⟩
     ·exact⟨_,_,rfl,by simp only[Question.cut];exact Nat.mod_lt _ hpos,.inr rfl⟩
    obtain⟨idx,w',hd1,hd2,hd3⟩:=hdraw
    have hs':Sim G h w'∧Evo G h w G h w':=by
     rcases hd3 with rfl|rfl
     ·exact⟨s,Evo.refl _ _ _⟩
     ·exact s.drawn _
    have hheap:w'.heap=w.heap:=by rcases hd3 with rfl|rfl<;>rfl
    have hget:cs[idx]?=some cs[idx]:=by simp[hd2]
    rcases hcase cs[idx] (Array.getElem_mem hd2) with ⟨hn,hall⟩|⟨e,he,hmem,hns⟩
    ·refine over hs'.1 hs'.2 ?_ (k0 hall)
     simp only[Instr.next,Nat.add_zero,Sem.run_bind,hg,Result.andThen_ok,hg2,hcond,Bool.false_eq_true,if_false,Sem.run_ite,Sem.run_pure,hcs,hd1,hget,hn]
    ·obtain⟨a,ha1,ha2⟩:=WD e6 (by simpa using hmem)
     have K1:=k1 _ ha1 hns
     obtain⟨s2,ev2⟩:=vV (ob:=.mapIter (some q) since (seen.toArray.push e.born) clock) (o':=.miter (some j) since (seen++[e.born]) clock) hs'.1 hes rfl h1 rfl ⟨b,some q,h1,by
      rw[mI w' b _ (by rw[hheap];exact (Array.getElem?_eq_some_iff.1 e2).1)];simp,q,hq,rfl⟩
     refine⟨_,.tuple #[.bool true,e.key,e.val],_,_,_,?_,?_,K1,s2,hs'.2.trans ev2⟩
     ·simp only[Instr.next,Nat.add_zero,Sem.run_bind,hg,Result.andThen_ok,hg2,hcond,Bool.false_eq_true,if_false,Sem.run_ite,Sem.run_pure,hcs,hd1,hget,he]
      simp[setObj,Sem.run,hheap,e2,dl]
     ·simp only[Rep,RepL]
      have hk1:e.key.oneCell'=true:=List.all_eq_true.1 hone _ ha1
      exact⟨_,rfl,_,_,rfl,⟨rfl,rfl⟩,_,_,rfl,⟨rfl,hk1⟩,_,_,rfl,ha2,rfl⟩
   ·exact k.elim
  ·exact k.elim
 ·exact k.elim
def nR (n:Nat):fF→Option (Value×AV)
 | []=>none
 | (k,b,v)::r=>if (b==n)=true then some (k,v) else nR n r
def oo (x:AV) (h:ae) (K:AV→Prop):Prop:=
 match x with
 | .ptr i 0=>(match h[i]? with
   | some (.miter (some j) _ seen last)=>(match h[j]?,seen.getLast? with
     | some (.amap es clock),some n=>(match nR n es with
       | some (k,v)=>if (k.oneCell'&&clock==last)=true then K (.tup [.lit k,v]) else False
       | none=>False)
     | _,_=>False)
   | _=>False)
 | _=>False
theorem Dw {n:Nat}:∀ {es:fF}{l:List MapEntry},RepE G es l→∀ {k:Value}{v:AV},nR n es=some (k,v)→∃ e,l.find? (·.born==n)=some e∧e.key=k∧Rep G v e.val
 | [],l,r,k,v,h=>by simp[nR]at h
 | (k',b,a)::es,l,r,k,v,h=>by
   simp only[RepE]at r
   obtain⟨e,rest,rfl,h1,h2,h3,h4⟩:=r
   simp only[nR]at h
   by_cases hq:(b==n)=true
   ·rw[if_pos hq]at h
    cases h
    exact⟨e,by simp[List.find?_cons,h2,hq],h1,h3⟩
   ·rw[if_neg hq]at h
    obtain⟨e',q1,q2⟩:=Dw h4 h
    refine⟨e',?_,q2⟩
    rw[List.find?_cons,h2]
    simp only[Bool.not_eq_true]at hq
    simp only[hq]
    exact q1
theorem UF (s:Sim G h w) {x:AV}{xv:Value}(hx:Rep G x xv) {K:AV→Prop}(k:oo x h K):Yl P G w (Instr.entry xv) K:=by
 unfold oo at k
 split at k
 ·rename_i i
  simp only[Rep]at hx
  obtain⟨b,o,h1,rfl⟩:=hx
  split at k
  ·rename_i j since seen last hes
   split at k
   ·rename_i es clock n hm hn
    split at k
    ·rename_i kk v hb
     split at k
     ·rename_i hc
      simp only[Bool.and_eq_true,beq_iff_eq]at hc
      obtain⟨b',mb,e1,e2,q,hq,rfl⟩:=s.obj _ _ hes
      rw[h1]at e1;cases e1
      obtain⟨q',arr,e4,e5,e6⟩:=jp s hm
      rw[hq]at e4;cases e4
      have hg:(getObj b).run P w=.ok (.mapIter (some q) since seen.toArray last) w:=by simp[getObj,Sem.run,e2]
      obtain⟨e,f1,f2,f3⟩:=Dw e6 hb
      have f1':arr.find? (·.born==n)=some e:=by
       clear e5 e6
       obtain⟨l⟩:=arr
       simpa using f1
      have hback:seen.toArray.back?=some n:=by
       rw[List.back?_toArray];exact hn
      refine⟨_,.tuple #[e.key,e.val],?_,?_,k⟩
      ·simp only[Instr.entry,Nat.add_zero,Sem.run_bind,hg,Result.andThen_ok,hback,run_getObj_map e5]
       rw[if_neg (by simp[hc.2])]
       simp[f1']
      ·simp only[Rep,RepL]
       rw[f2]
       exact⟨_,rfl,_,_,rfl,⟨rfl,hc.1⟩,_,_,rfl,f3,rfl⟩
     ·exact k.elim
    ·exact k.elim
   ·exact k.elim
  ·exact k.elim
 ·exact k.elim
end
end
end Go.Proofs.YtbhphjpgjgigpaaGreatDoor.AL
