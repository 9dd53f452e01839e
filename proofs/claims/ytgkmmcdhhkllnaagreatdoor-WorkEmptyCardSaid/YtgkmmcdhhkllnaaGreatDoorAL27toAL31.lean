import Derived.Test.YtgkmmcdhhkllnaaGreatDoorAL26
import Derived.Shelf.SlIter.Nil
import Derived.Test.YtgkmmcdhhkllnaaGreatDoorAL13toAL19
import Derived.Shelf.Strings.Search3
import Derived.Shelf.Vars
import Derived.Lib.LaidTab
import Derived.Lib.LaidU8
import Derived.Lib.Space
set_option linter.all false
set_option autoImplicit true
set_option relaxedAutoImplicit true
set_option maxRecDepth 100000
namespace Go.Proofs.YtgkmmcdhhkllnaaGreatDoor.AL
noncomputable section
section
open Go.RowKit Go.Maps Go.Sort Go.Shelf
open Go.Proofs (encStr)
variable [Tabs]
section
variable {P:Program}{G:Gh}{h:ae}{w w':World}
theorem K4 (s:Sim G h w) (hb:Below w.heap.size w w'):Sim G h w'∧Evo G h w G h w':=by
 refine⟨⟨fun i o hi=>(s.obj i o hi).keep (Gh.le.refl G) fun p hp hl=>hb.block _ (s.loc_lt hi hl hp),s.dom,s.apart,fun b o v e=>?_,s.sep,s.tab⟩,
  ⟨Gh.le.refl G,hb.size,hb.os,hb.tape,hb.output,fun k hk _=>hb.block k hk,fun k ho=>.inl ho,fun _ _ _ h=>.inl h⟩⟩
 exact (hb.cell (p:=⟨b,o,none⟩) (nI s e)).trans (s.frz b o v e)
theorem La (s:Sim G h w) (hw:Below w.heap.size w w') (g:Nat) (hg:w.heap.size≤g) (o:AObj) (c:Nat) (x:ObjAt (G.add h.length (g,0) c) w' h.length o):
  Sim (G.add h.length (g,0) c) (h++[o]) w'∧Evo G h w (G.add h.length (g,0) c) (h++[o]) w':=by
 have le:=Gh.le_add s.fresh (g,0) c
 have hold:∀ b,b<w.heap.size→w'.heap[b]?=w.heap[b]?:=hw.block
 refine⟨⟨?_,?_,?_,?_,?_,s.tab⟩,⟨le,hw.size,hw.os,hw.tape,hw.output,fun b hb _=>hold b hb,?_,fun _ _ _ h=>.inl h⟩⟩
 ·intro i oi hi
  rcases Nat.lt_or_ge i h.length with hlt|hge
  ·rw[List.getElem?_append_left hlt]at hi
   exact (s.obj i oi hi).keep le fun p hp hl=>hold _ (s.loc_lt hi hl hp)
  ·rw[List.getElem?_append_right hge]at hi
   have:i=h.length:=by
    rcases Nat.eq_or_lt_of_le hge with h1|h1
    ·exact h1.symm
    ·rw[List.getElem?_eq_none (by simp;omega)]at hi;cases hi
   subst this
   simp at hi
   subst hi
   exact x
 ·intro i p hp
  simp only[Gh.add]at hp
  split at hp
  ·simp;omega
  ·have:=s.dom i p hp;simp;omega
 ·intro i j oi oj p q hi hj li lj hp hq hpq
  simp only[Gh.add]at hp hq
  rcases Nat.lt_or_ge i h.length with hli|hgi<;>rcases Nat.lt_or_ge j h.length with hlj|hgj
  ·rw[if_neg (by omega)]at hp hq
   rw[List.getElem?_append_left hli]at hi
   rw[List.getElem?_append_left hlj]at hj
   exact s.apart i j oi oj p q hi hj li lj hp hq hpq
  ·rw[if_neg (by omega)]at hp
   rw[List.getElem?_append_left hli]at hi
   have h1:=s.loc_lt hi li hp
   have hjl:j<(h++[o]).length:=(List.getElem?_eq_some_iff.1 hj).1
   have:j=h.length:=by simp at hjl;omega
   rw[if_pos this]at hq
   cases hq
   simp at hpq
   omega
  ·rw[if_neg (by omega)]at hq
   rw[List.getElem?_append_left hlj]at hj
   have h1:=s.loc_lt hj lj hq
   have hil:i<(h++[o]).length:=(List.getElem?_eq_some_iff.1 hi).1
   have:i=h.length:=by simp at hil;omega
   rw[if_pos this]at hp
   cases hp
   simp at hpq
   omega
  ·have hil:i<(h++[o]).length:=(List.getElem?_eq_some_iff.1 hi).1
   have hjl:j<(h++[o]).length:=(List.getElem?_eq_some_iff.1 hj).1
   simp at hil hjl
   omega
 ·intro b off v e
  have e':G.F b off=some v:=e
  exact (hw.cell (p:=⟨b,off,none⟩) (nI s e')).trans (s.frz b off v e')
 ·intro i oi p hi li hp off
  simp only[Gh.add]at hp ⊢
  rcases Nat.lt_or_ge i h.length with hlt|hge
  ·rw[if_neg (by omega)]at hp
   rw[List.getElem?_append_left hlt]at hi
   exact s.sep i oi p hi li hp off
  ·have hil:i<(h++[o]).length:=(List.getElem?_eq_some_iff.1 hi).1
   have:i=h.length:=by simp at hil;omega
   rw[if_pos this]at hp
   cases hp
   cases e:G.F g off with
   | none=>rfl
   | some v=>have:=nI s e;omega
 ·intro b ⟨i,oi,p,hi,li,hp,hb⟩
  simp only[Gh.add]at hp
  rcases Nat.lt_or_ge i h.length with hlt|hge
  ·rw[if_neg (by omega)]at hp
   rw[List.getElem?_append_left hlt]at hi
   exact .inl ⟨i,oi,p,hi,li,hp,hb⟩
  ·have hil:i<(h++[o]).length:=(List.getElem?_eq_some_iff.1 hi).1
   have:i=h.length:=by simp at hil;omega
   rw[if_pos this]at hp
   cases hp
   exact .inr (by simp at hb;omega)
end
section
omit [Tabs]
theorem F1:∀ a b:List UInt8,lLt a b=true↔a<b
 | [],[]=>by simp[lLt]
 | a::x,[]=>by simp[lLt]
 | [],b::y=>by simp[lLt]
 | a::x,b::y=>by
   simp only[lLt,J7,cJ,CU,beq_iff_eq,F1 x y,List.cons_lt_cons_iff]
   have:uLt a b=true↔a<b:=by rw[uLt,rz,UInt8.lt_iff_toNat_lt]
   constructor
   ·rintro (⟨h1,_⟩|⟨_,h2⟩)
    ·exact .inl (this.1 h1)
    ·exact .inr h2
   ·intro hh
    cases hu:uLt a b
    ·rcases hh with h1|h2
     ·rw[← this,hu]at h1;cases h1
     ·exact .inr ⟨rfl,h2⟩
    ·exact .inl ⟨rfl,trivial⟩
def PJ (a:List UInt8):List (List UInt8)→List (List UInt8)
 | []=>[a]
 | b::l=>@Bool.casesOn (fun _=>List (List UInt8)) (lLt b a) (a::b::l) (b::PJ a l)
def Bf:List (List UInt8)→List (List UInt8)
 | []=>[]
 | a::l=>PJ a (Bf l)
theorem JM (a b:List UInt8) (l:List (List UInt8)):PJ a (b::l)=if b<a then b::PJ a l else a::b::l:=by
 show @Bool.casesOn (fun _=>List (List UInt8)) (lLt b a) (a::b::l) (b::PJ a l)=_
 cases h:lLt b a
 ·rw[if_neg (fun e=>by rw[← F1,h]at e;cases e)]
 ·rw[if_pos ((F1 _ _).1 h)]
theorem Db (a:List UInt8):∀ l:List (List UInt8),(PJ a l).Perm (a::l)
 | []=>List.Perm.refl _
 | b::l=>by
   rw[JM]
   split
   ·exact ((Db a l).cons b).trans (List.Perm.swap a b l)
   ·exact List.Perm.refl _
theorem vz:∀ l:List (List UInt8),(Bf l).Perm l
 | []=>List.Perm.refl _
 | a::l=>(Db a _).trans ((vz l).cons a)
theorem EH (a:List UInt8):∀ l:List (List UInt8),l.Pairwise (·≤·)→(PJ a l).Pairwise (·≤·)
 | [],_=>by simp[PJ]
 | b::l,h=>by
   rw[JM]
   rw[List.pairwise_cons]at h
   split
   ·rename_i hlt
    refine List.pairwise_cons.2 ⟨fun x hx=>?_,EH a l h.2⟩
    rcases List.mem_cons.1 ((Db a l).mem_iff.1 hx) with rfl|hx
    ·exact List.le_of_lt hlt
    ·exact h.1 x hx
   ·rename_i hlt
    have hab:a≤b:=List.not_lt.1 hlt
    refine List.pairwise_cons.2 ⟨fun x hx=>?_,List.pairwise_cons.2 h⟩
    rcases List.mem_cons.1 hx with rfl|hx
    ·exact hab
    ·exact List.le_trans hab (h.1 x hx)
theorem vh:∀ l:List (List UInt8),(Bf l).Pairwise (·≤·)
 | []=>List.Pairwise.nil
 | a::l=>EH a _ (vh l)
theorem we {l l':List (List UInt8)}(h:l.Perm l'):l.mergeSort leB=Bf l':=by
 have tr:∀ a b c:List UInt8,leB a b=true→leB b c=true→leB a c=true:=fun a b c h1 h2=>by simp only[leB,decide_eq_true_eq]at *;exact List.le_trans h1 h2
 have to:∀ a b:List UInt8,(leB a b||leB b a)=true:=fun a b=>by simp only[leB,Bool.or_eq_true,decide_eq_true_eq];exact List.le_total a b
 refine List.Perm.eq_of_pairwise (le:=fun a b=>leB a b=true) (fun a b _ _ h1 h2=>?_) (List.pairwise_mergeSort tr to l) ((vh l').imp fun h=>by simpa [leB] using h) (((List.mergeSort_perm l leB).trans h).trans (vz l').symm)
 simp only[leB,decide_eq_true_eq]at h1 h2
 exact List.le_antisymm h1 h2
end
end
section
open Go.RowKit Go.Maps Go.Sort Go.Shelf Go.WideElems Go.WideShapes
open Go.Proofs (encStr)
def BP:eN→Option (List (List UInt8))
 | []=>some []
 | (.string s,_,_)::es=>(match BP es with|some l=>some (s.data.toList::l)|none=>none)
 | _=>none
def Hy (lo:Nat) (clock:Nat):eN→Bool
 | []=>true
 | (_,b,_)::es=>bA (Nat.ble lo b) (bA (Nat.blt b clock) (Hy (Nat.succ b) clock es))
def Cu:List (List UInt8)→Bool
 | []=>true
 | [a]=>Nat.ble a.length 1000000
 | a::b::l=>bA (Nat.ble a.length 1000000) (bA (lLt a b) (Cu (b::l)))
def Mc (g:FuncId) (args:List AV) (t:HT) (n:Nat) (K:AV→HT→Nat→Bool):Bool:=
 match args with
 | [.map j]=>fN n fun n=>K (.fn (.func g) [] [.ptr n 0]) (t.set (.keys j) n) (n+1)
 | _=>false
def oH (l:List UInt8):AV:=S ⟨⟨l⟩⟩
def Bj (g:FuncId) (args:List AV) (t:HT) (n:Nat) (K:AV→HT→Nat→Bool):Bool:=
 match args with
 | [.fn (.func g') [] [.ptr i 0]]=>bA (Nat.beq g' g) (match t.get i with
   | some (.keys j)=>(match t.get j with
     | some (.amap es clock)=>(match BP es with
       | some ks=>bA (Nat.ble es.length 1000000) (bA (Hy 0 clock es) (bA (Cu (Bf ks)) (match Bf ks with
         | []=>K (.full 0 []) t n
         | a::l=>fN n fun n=>fN (Nat.succ l.length) fun m=>K (.sl n 0 m 1) (t.set (.cells (oH a::l.map oH)) n) (n+1))))
       | none=>false)
     | _=>false)
   | _=>false)
 | _=>false
theorem Ew:∀ {es:eN}{ks:List (List UInt8)},BP es=some ks→es.map (·.1)=ks.map fun l=>Value.string ⟨⟨l⟩⟩
 | [],ks,h=>by cases h;rfl
 | (k,b,v)::es,ks,h=>by
   unfold BP at h
   split at h
   ·rename_i he;cases he
   ·rename_i s _ _ es' he
    cases he
    split at h
    ·rename_i l hl
     cases h
     simp only[List.map_cons,Ew hl,List.cons.injEq,and_true]
    ·cases h
   ·cases h
theorem Ll {clock:Nat}:∀ {es:eN}{lo:Nat},Hy lo clock es=true→(∀ e∈es,lo≤e.2.1∧e.2.1<clock)∧(es.map (·.2.1)).Nodup
 | [],lo,h=>by simp
 | (k,b,v)::es,lo,h=>by
   simp only[Hy,cJ,rz]at h
   obtain⟨h1,h2,h3⟩:=h
   have h1:=Nat.le_of_ble_eq_true h1
   obtain⟨i1,i2⟩:=Ll h3
   refine⟨fun e he=>?_,?_⟩
   ·rcases List.mem_cons.1 he with rfl|he
    ·exact⟨h1,h2⟩
    ·have:=i1 e he;omega
   ·simp only[List.map_cons,List.nodup_cons]
    refine⟨fun hm=>?_,i2⟩
    obtain⟨e,he,hb⟩:=List.mem_map.1 hm
    have:=i1 e he
    omega
theorem Gw:∀ {l:List (List UInt8)},Cu l=true→l.Pairwise (·<·)∧∀ a∈l,a.length≤1000000
 | [],h=>by simp
 | [a],h=>by simp only[Cu]at h;exact⟨by simp,fun b hb=>by simp at hb;subst hb;exact Nat.le_of_ble_eq_true h⟩
 | a::b::l,h=>by
   simp only[Cu,cJ]at h
   obtain⟨h0,h1,h2⟩:=h
   obtain⟨i1,i2⟩:=Gw h2
   refine⟨List.pairwise_cons.2 ⟨fun x hx=>?_,i1⟩,fun x hx=>?_⟩
   ·have h1:=(F1 _ _).1 h1
    rcases List.mem_cons.1 hx with rfl|hx
    ·exact h1
    ·exact List.lt_trans h1 ((List.pairwise_cons.1 i1).1 x hx)
   ·rcases List.mem_cons.1 hx with rfl|hx
    ·exact Nat.le_of_ble_eq_true h0
    ·exact i2 x hx
variable [Tabs]
section
variable {P:Program}
def AO (P:Program) (f g:FuncId) (tm:TypeId):Prop:=FV P f∧∀ (b:Nat) (W:World),Calls P f #[.map (some b)] W fun e w'=>e=.returned (.func (.func g) #[] #[.pointer (some ⟨W.heap.size,0,none⟩)])∧w'=W.alloc (.cells #[.map (some b)] tm)
def qE (P:Program) (f g:FuncId) (ks:TypeId):Prop:=FV P f∧P.underlying ks=some .string∧∀ (Bm b nn:Nat) (D0:DataW Unit) (R:Value→Option (DataW Unit×List MemPlace)) (W:World),Bm<W.heap.size→W.cell? ⟨Bm,0,none⟩=some (.map (some b))→W.ownsMap P ks R b nn D0→Maps.size D0≤1000000→
 Calls P f #[.func (.func g) #[] #[.pointer (some ⟨Bm,0,none⟩)]] W fun e w'=>∃ (v:Value) (ss:List (List UInt8)),e=.returned v∧ss.Perm (strKeys D0)∧
  w'.ownsRow W.heap.size ks 1 v ss.length ((ss.mergeSort (fun x y=>decide (x≤y))).map encStr)∧(v=.slice none 0 0↔ss=[])∧Below W.heap.size W w'
theorem JK {f g:FuncId}{tm:TypeId}(hK:AO P f g tm) {args:List AV}{t:HT}{n:Nat}{h:ae}{K:AV→HT→Nat→Bool}(hr:HR t n h) (k:Mc g args t n K=true):ACall P f args h (KH K):=by
 unfold Mc at k
 split at k
 ·rename_i j
  rw[jz]at k
  refine⟨hK.1,fun G w vs s r=>?_⟩
  obtain⟨x,rfl,hx⟩:=r.single
  simp only[Rep]at hx
  obtain⟨b,hb,rfl⟩:=hx
  refine (hK.2 b w).mono fun e w' ⟨he,hw⟩=>?_
  subst hw
  have x:ObjAt (G.add h.length (w.heap.size,0) 0) (w.alloc (.cells #[.map (some b)] tm)) h.length (.keys j):=by
   have hj:j≠h.length:=fun e=>by have:=s.fresh;rw[← e,hb]at this;cases this
   refine⟨w.heap.size,tm,b,by simp[Gh.add],?_,by simp only[Gh.add];rw[if_neg hj];exact hb⟩
   show (w.heap.push _)[w.heap.size]?=_
   simp
  obtain⟨s',ev⟩:=ln s _ _ 0 x
  refine⟨.fn (.func g) [] [.ptr n 0],_,_,_,he,?_,⟨_,_,hr.push _,k⟩,s',ev⟩
  simp only[Rep,RepL]
  refine⟨[],[.pointer (some ⟨w.heap.size,0,none⟩)],rfl,rfl,_,_,rfl,⟨w.heap.size,0,?_,rfl⟩,rfl⟩
  simp[Gh.add,hr.len]
 ·cases k
theorem C9 {G:Gh}:∀ {es:eN}{l:List MapEntry},RepE G es l→l.map (·.key)=es.map (·.1)∧l.map (·.born)=es.map (·.2.1)
 | [],l,h=>by simp only[RepE]at h;subst h;simp
 | (k,n,a)::es,l,h=>by
   simp only[RepE]at h
   obtain⟨e,r,rfl,h1,h2,_,h5⟩:=h
   obtain⟨i1,i2⟩:=C9 h5
   simp[h1,h2,i1,i2]
theorem EZ {f g:FuncId}{ks:TypeId}(hS:qE P f g ks) {args:List AV}{t:HT}{n:Nat}{h:ae}{K:AV→HT→Nat→Bool}(hr:HR t n h) (k:Bj g args t n K=true):ACall P f args h (KH K):=by
 unfold Bj at k
 split at k
 ·rename_i g' i
  rw[cJ]at k
  obtain⟨hg,k⟩:=k
  have hg:=Nat.eq_of_beq_eq_true hg
  subst hg
  split at k
  ·rename_i j hi
   split at k
   ·rename_i es clock hj
    split at k
    ·rename_i l hl
     rw[cJ,cJ,cJ]at k
     obtain⟨hlen,hborn,hrise,k⟩:=k
     have hlen:=Nat.le_of_ble_eq_true hlen
     refine⟨hS.1,fun G w vs s r=>?_⟩
     obtain⟨x,rfl,hx⟩:=r.single
     simp only[Rep,RepL]at hx
     obtain⟨_,_,rfl,rfl,y,_,rfl,⟨b0,o0,hb0,rfl⟩,rfl⟩:=hx
     obtain⟨b1,el,q,e1,e2,e3⟩:=s.obj i _ (hr.at_ i _ hi)
     rw[hb0]at e1;cases e1
     obtain⟨b2,arr,e4,e5,e6⟩:=s.obj j _ (hr.at_ j _ hj)
     rw[e3]at e4;cases e4
     obtain⟨m1,m2⟩:=C9 e6
     have hkeys:=Ew hl
     obtain⟨n1,n2⟩:=Ll hborn
     obtain⟨r1,r2⟩:=Gw hrise
     have hperm:=vz l
     have hsz:∀ a∈l,a.length≤1000000:=fun a ha=>r2 a (hperm.mem_iff.2 ha)
     have hnd:l.Nodup:=hperm.nodup_iff.1 (r1.imp fun h e=>by subst e;exact List.lt_irrefl _ h)
     have harr:arr.toList.length=es.length:=e6.length
     let R:Value→Option (DataW Unit×List MemPlace):=fun _=>some (.nil,[])
     have hkey:∀ x∈arr.toList,∃ a∈l,x.key=.string ⟨⟨a⟩⟩:=fun x hx=>by
      have:x.key∈arr.toList.map (·.key):=List.mem_map_of_mem hx
      rw[m1,hkeys]at this
      obtain⟨a,ha,e⟩:=List.mem_map.1 this
      exact⟨a,ha,e.symm⟩
     have hrd:∀ x∈arr.toList,∀ a,x.key=.string ⟨⟨a⟩⟩→a.length≤1000000→rd P ks R x=some (.string a,.nil):=fun x hx a e ha=>by
      have:(⟨⟨a⟩⟩:ByteArray).size≤maxLen:=by show a.length≤maxLen;unfold maxLen;omega
      simp[rd,keyOf,mapKey,hS.2.1,e,this,R]
     have hfit:Fit P ks R arr clock:=by
      refine⟨?_,⟨fun x hx=>?_,?_,?_⟩,fun x hx=>?_⟩
      ·have:arr.size=es.length:=by simpa using harr
       unfold maxLen;omega
      ·have:x.born∈arr.toList.map (·.born):=List.mem_map_of_mem hx
       rw[m2]at this
       obtain⟨e,he,hb⟩:=List.mem_map.1 this
       rw[← hb];exact (n1 e he).2
      ·rw[m2];exact n2
      ·rw[m1,hkeys]
       refine List.pairwise_map.2 (hnd.imp fun h e=>h ?_)
       simpa using e
      ·obtain⟨a,ha,e⟩:=hkey x hx
       exact⟨_,hrd x hx a e (hsz a ha)⟩
     have hsk:(strKeys (.map ((arr.toList.map (rg P ks R)).foldr DataW.insert []):DataW Unit)).Perm l:=by
      show ((arr.toList.map (rg P ks R)).foldr DataW.insert []).map (fun p=>strOf p.1) |>.Perm l
      refine ((sorted_perm _).map _).trans ?_
      rw[List.map_map]
      have:arr.toList.map ((fun p:Lit×DataW Unit=>strOf p.1) ∘ rg P ks R)=l:=by
       have e1:arr.toList.map ((fun p:Lit×DataW Unit=>strOf p.1) ∘ rg P ks R)=arr.toList.map fun x=>(match x.key with|.string s=>s.data.toList|_=>[]):=by
        refine List.map_congr_left fun x hx=>?_
        obtain⟨a,ha,e⟩:=hkey x hx
        simp only[Function.comp,rg,hrd x hx a e (hsz a ha),Option.getD_some,strOf,e]
       rw[e1]
       have e2:arr.toList.map (fun x=>(match x.key with|.string s=>s.data.toList|_=>[]))=(arr.toList.map (·.key)).map fun v=>(match v with|.string s=>s.data.toList|_=>[]):=by rw[List.map_map];rfl
       rw[e2,m1,hkeys,List.map_map]
       exact List.map_id'' (fun a=>rfl) l
      rw[this]
     have hsize:Maps.size (.map ((arr.toList.map (rg P ks R)).foldr DataW.insert []):DataW Unit)≤1000000:=by
      show ((arr.toList.map (rg P ks R)).foldr DataW.insert []).length≤_
      rw[length_sorted,List.length_map,harr];exact hlen
     have hcell:w.cell? ⟨b0,0,none⟩=some (.map (some q)):=by simp[World.cell?,e2]
     have hlt:b0<w.heap.size:=(Array.getElem?_eq_some_iff.1 e2).1
     refine (hS.2.2 b0 q arr.size _ R w hlt hcell ⟨arr,clock,e5,hfit,Nat.le_refl _,rfl⟩ hsize).mono fun e w' ⟨v,ss,he,hp,hrow,hnil,hb⟩=>?_
     have hms:=we (hp.trans hsk)
     have hms':ss.mergeSort (fun x y=>decide (x≤y))=Bf l:=hms
     rw[hms']at hrow
     have hslen:ss.length=(Bf l).length:=by rw[← hms];exact (List.length_mergeSort _).symm
     rw[hslen]at hrow
     split at k
     ·rename_i hnl
      have hss:ss=[]:=by rw[hnl]at hslen;exact List.length_eq_zero_iff.1 hslen
      obtain⟨s',ev⟩:=K4 s hb
      exact⟨.full 0 [],v,h,G,he,by rw[hnil.2 hss];simp[Rep],⟨t,n,hr,k⟩,s',ev⟩
     ·rename_i a l' hcons
      rw[jz,jz]at k
      rcases hrow.2 with ⟨hv,hz⟩|⟨gb,cap,cur,hv,hbase,hgb,c1,c2,c3,c4⟩
      ·rw[hcons]at hz;simp at hz
      ·rw[hcons]at hv c1 c4
       have x:ObjAt (G.add h.length (gb,0) cap) w' h.length (.cells (oH a::l'.map oH)):=by
        refine⟨gb,0,cur,ks,0,0,by simp[Gh.add],hgb,fun k _ hk=>by omega,?_,by simp[Gh.add,c3],fun j' a' ha'=>?_⟩
        ·simp[Gh.add];simpa using c1
        ·have hjl:j'<(oH a::l'.map oH).length:=(List.getElem?_eq_some_iff.1 ha').1
         have:oH a::l'.map oH=(a::l').map oH:=rfl
         rw[this,List.getElem?_map]at ha'
         cases hjj:(a::l')[j']? with
         | none=>rw[hjj]at ha';cases ha'
         | some z=>
           rw[hjj]at ha'
           cases ha'
           refine⟨encStr z,?_,by simp[Rep,oH,encStr,Value.oneCell']⟩
           have hj3:(cur.toList.take ((a::l').length*1))[j']?=some (encStr z):=by rw[c4,List.getElem?_map,hjj];rfl
           rw[List.getElem?_take]at hj3
           split at hj3
           ·simpa using hj3
           ·cases hj3
       obtain⟨s',ev⟩:=La s hb gb hbase _ cap x
       refine⟨.sl n 0 (Nat.succ l'.length) 1,v,_,_,he,?_,⟨_,_,hr.push _,k⟩,s',ev⟩
       rw[hv]
       simp only[Rep]
       exact⟨gb,0,cap,0,by simp[Gh.add,hr.len],by simp[Gh.add,hr.len],by simpa using c1,fun _=>rfl,rfl⟩
    ·cases k
   ·cases k
  ·cases k
 ·cases k
end
end
section
def Yh (es:eN):Bool:=match es with
 | []=>true
 | e::es=>bA e.1.oneCell' (Yh es)
structure Meets (h:ae) (j:Nat) (es:eN) (clock:Nat):Prop where
 map:h[j]?=some (.amap es clock)
 born:Hy 0 clock es=true
 one:Yh es=true
theorem Meets.ne {h:ae}{j:Nat}{es:eN}{clock:Nat}(M:Meets h j es clock):j<h.length:=(List.getElem?_eq_some_iff.1 M.map).1
theorem Meets.at {h:ae}{j:Nat}{es:eN}{clock:Nat}(M:Meets h j es clock) (o:AObj):(h++[o])[j]?=some (.amap es clock):=by
 rw[List.getElem?_append_left M.ne];exact M.map
variable [Tabs]
end
section
open Go.RowKit
section
variable {H:Type}{enc:TypeId×Value→H}
end
theorem Pm {P:Program}{W:World}{name:String}{k:IntKind}{zs:List Int}{l:List (String×DataW Unit)}{g:Nat}{t e:TypeId}{n:Nat}
  (hm:(name,Lib.tabData k zs)∈l) (hg:P.globalNamed name=some g) (hty:(P.globals[g]?).map (·.type)=some t) (ht:P.underlying t=some (.array n e)) (he:P.underlying e=some (.int k)) (hce:P.cellsOf e=1) (hct:P.cellsOf t=n)
  (h:laidMet P l W):∀ i,i<zs.length→W.cell? ⟨g,i,none⟩=some (.int k (zs.getD i 0)):=by
 obtain⟨g',t',cs,fuel,p,hg',ht',hvar,hd⟩:=Lib.laidMet.reads h hm
 obtain rfl:=Option.some.inj (hg.symm.trans hg')
 obtain rfl:=Option.some.inj (hty.symm.trans ht')
 have tab:Lib.TabIs P W name k zs:=by
  unfold Lib.TabIs
  rw[hvar,← Lib.cells_of_tab ht he hce hct hd]
 exact fun i hi=>tab.cell hg i hi
theorem GV [Syms] {G:Gh}{k:IntKind}{b:Nat}:∀ (zs:List Int) (o:Nat),(∀ i,i<zs.length→G.F b (o+i)=some (.int k (zs.getD i 0)))→RepAt G (zs.map fun z=>.lit (.int k z)) b o
 | [],o,h=>by simp[RepAt]
 | z::zs,o,h=>by
   simp only[List.map_cons,RepAt]
   refine⟨⟨_,h 0 (by simp),by simp[Rep,Value.oneCell']⟩,GV zs (o+1) fun i hi=>?_⟩
   have:=h (i+1) (by simpa using hi)
   rw[show o+1+i=o+(i+1) by omega,this]
   simp
def vK:List UInt8→List UInt8→Bool
 | [],_=>true
 | _::_,[]=>false
 | a::x,b::y=>bA (uEq a b) (vK x y)
def DB (sub:List UInt8):List UInt8→Nat→Int
 | [],i=>@Bool.casesOn (fun _=>Int) (vK sub []) (.negSucc 0) (.ofNat i)
 | b::l,i=>@Bool.casesOn (fun _=>Int) (vK sub (b::l)) (DB sub l (Nat.succ i)) (.ofNat i)
def LP (args:List AV) (t:HT) (n:Nat) (K:AV→HT→Nat→Bool):Bool:=
 match args with
 | [.lit (.string s),.lit (.string sub)]=>bA (Nat.ble s.data.toList.length 4294967280) (fI (DB sub.data.toList s.data.toList 0) fun r=>K (I r) t n)
 | _=>false
theorem CY:∀ a b:List UInt8,vK a b=a.isPrefixOf b
 | [],_=>by simp[vK]
 | _::_,[]=>by simp[vK]
 | a::x,b::y=>by
   simp only[vK,List.isPrefixOf,CU,CY x y]
   cases (a==b)<;>simp[bA]
theorem Kl (sub:List UInt8):∀ (l:List UInt8) (i:Nat),DB sub l i=if Lib.index l sub=-1 then -1 else Lib.index l sub+i
 | [],i=>by
   show @Bool.casesOn (fun _=>Int) (vK sub []) (.negSucc 0) (.ofNat i)=_
   rw[CY]
   cases sub<;>simp[Lib.index,List.isPrefixOf]<;>rfl
 | b::l,i=>by
   have ih:=Kl sub l (i+1)
   have hge:=Lib.index_ge l sub
   have e1:DB sub (b::l) i=if sub.isPrefixOf (b::l)=true then (i:Int) else DB sub l (i+1):=by
    show @Bool.casesOn (fun _=>Int) (vK sub (b::l)) (DB sub l (i+1)) (.ofNat i)=_
    rw[CY]
    cases hb:sub.isPrefixOf (b::l)<;>rfl
   rw[e1,ih]
   simp only[Lib.index]
   by_cases hb:sub.isPrefixOf (b::l)=true
   ·simp[hb]
   ·simp only[hb,if_false,Bool.false_eq_true]
    by_cases h1:Lib.index l sub=-1
    ·simp[h1]
    ·rw[if_neg h1,if_neg (show ¬ (Lib.index l sub==-1)=true by simpa using h1)]
     rw[if_neg (by omega)];omega
variable [Tabs]
def TH (P:Program) (f:FuncId) (g:Nat):Prop:=FV P f∧∀ (s sub:ByteArray) (m:Int) (w:World),s.size<4294967281→w.cell? ⟨g,0,none⟩=some (.int .i64 m)→
 Calls P f #[.string s,.string sub] w fun e w'=>e=.returned (.int .i64 (Lib.index s.data.toList sub.data.toList))∧w'=w
theorem Q0 {P:Program}{f:FuncId}{g:Nat}(hI:TH P f g) (hg:∀ F,Tabs.ok F→∃ m,F g 0=some (.int .i64 m)) {args:List AV}{t:HT}{n:Nat}{h:ae}{K:AV→HT→Nat→Bool}(hr:HR t n h) (k:LP args t n K=true):ACall P f args h (KH K):=by
 unfold LP at k
 split at k
 ·rename_i s sub
  rw[cJ,N2,Kl]at k
  obtain⟨h1,k⟩:=k
  have h1:=Nat.le_of_ble_eq_true h1
  refine⟨hI.1,fun G w vs si r=>?_⟩
  obtain⟨x,y,hx,ha,hb⟩:=r.two
  simp only[Rep]at ha hb
  obtain⟨rfl,_⟩:=ha
  obtain⟨rfl,_⟩:=hb
  obtain⟨m,hm⟩:=hg _ si.tab
  subst hx
  refine (hI.2 s sub m w (Nat.lt_of_le_of_lt (show s.size≤4294967280 from h1) (by omega)) (si.frz _ _ _ hm)).mono fun e w' ⟨he,hw⟩=>?_
  subst hw
  refine⟨I (Lib.index s.data.toList sub.data.toList),_,h,G,he,by simp[Rep,Value.oneCell'],⟨t,n,hr,?_⟩,si,Evo.refl _ _ _⟩
  split at k
  ·rename_i h1;rw[h1];exact k
  ·simpa using k
 ·cases k
end
section
@[reducible] def Tj (l:List Int):Syms:=⟨fun j=>.int .i64 (l.getD j 0),fun _=>rfl⟩
variable [Tabs]
section
variable {P:Program}{G:Gh}{h:ae}
