import Derived.Test.YtgkmmcdhhkllnaaGreatDoorAN2toAA7
import Derived.Test.YtgkmmcdhhkllnaaGreatDoorSB
import Derived.Test.YtgkmmcdhhkllnaaGreatDoorAI4toKS9
set_option linter.all false
set_option autoImplicit true
set_option relaxedAutoImplicit true
set_option maxRecDepth 100000
namespace Go.Proofs.YtgkmmcdhhkllnaaGreatDoor.AL
noncomputable section
section
def upd (f:Str→Option Int) (k:Str) (v:Int):Str→Option Int:=fun x=>if x=k then some v else f x
structure FillInv (g:Int→Int) (kvs:KV) (sn:List Nat) (kv:KV):Prop where
 nd:(bP kv).Nodup
 snd:sn.Nodup
 lt:∀ q∈sn,q<kvs.length
 at_:∀ k,bw k kv=if ∃ q∈sn,(bP kvs)[q]?=some k then (bw k kvs).map g else none
theorem FillInv.start {g:Int→Int}{kvs:KV}:FillInv g kvs [] []:=⟨by simp[bP],by simp,by simp,by simp[bw]⟩
theorem FillInv.step {g:Int→Int}{kvs kv:KV}{sn:List Nat}(I:FillInv g kvs sn kv) (nd:(bP kvs).Nodup) {q:Nat}(hq:q<kvs.length) (hn:q∉sn):FillInv g kvs (sn++[q]) (putA kvs[q].1 (g kvs[q].2) kv) where
 nd:=qR I.nd
 snd:=by
  rw[List.nodup_append]
  exact⟨I.snd,by simp,fun a ha b hb e=>by simp at hb;subst hb;subst e;exact hn ha⟩
 lt:=by
  intro x hx
  simp only[List.mem_append,List.mem_singleton]at hx
  rcases hx with hx|rfl
  ·exact I.lt x hx
  ·exact hq
 at_:=by
  intro k
  rw[nF]
  have hkq:(bP kvs)[q]?=some kvs[q].1:=by simp[bP,hq]
  by_cases hk:k=kvs[q].1
  ·subst hk
   rw[if_pos rfl,if_pos ⟨q,by simp,hkq⟩]
   have hl:bw kvs[q].1 kvs=some kvs[q].2:=(KB nd).2 (List.getElem_mem hq)
   rw[hl];rfl
  ·rw[if_neg hk,I.at_ k]
   have:(∃ x∈sn++[q],(bP kvs)[x]?=some k)↔∃ x∈sn,(bP kvs)[x]?=some k:=by
    constructor
    ·rintro ⟨x,hx,he⟩
     simp only[List.mem_append,List.mem_singleton]at hx
     rcases hx with hx|rfl
     ·exact⟨x,hx,he⟩
     ·rw[hkq]at he;exact (hk (Option.some.inj he).symm).elim
    ·rintro ⟨x,hx,he⟩
     exact⟨x,by simp[hx],he⟩
   simp only[this]
theorem FillInv.done {g:Int→Int}{kvs kv:KV}{sn:List Nat}(I:FillInv g kvs sn kv) (hall:∀ q,q<kvs.length→q∈sn) (k:Str):bw k kv=(bw k kvs).map g:=by
 rw[I.at_ k]
 split
 ·rfl
 ·rename_i hn
  have:bw k kvs=none:=by
   rw[A2]
   intro hk
   obtain⟨q,hq,e⟩:=List.getElem_of_mem hk
   exact hn ⟨q,hall q (by simpa [bP] using hq),by rw[List.getElem?_eq_getElem hq,e]⟩
  rw[this];rfl
theorem FillInv.less {g:Int→Int}{kvs kv:KV}{sn:List Nat}(I:FillInv g kvs sn kv) {q:Nat}(hq:q<kvs.length) (hn:q∉sn):sn.length<kvs.length:=by
 have hnd:(sn++[q]).Nodup:=by
  rw[List.nodup_append]
  exact⟨I.snd,by simp,fun a ha b hb e=>by simp at hb;subst hb;subst e;exact hn ha⟩
 have:=hnd.length_le_of_subset (l₂:=List.range kvs.length) (fun x hx=>List.mem_range.2 (by
  simp only[List.mem_append,List.mem_singleton]at hx
  rcases hx with hx|rfl
  ·exact I.lt x hx
  ·exact hq))
 simp at this;omega
def pR (e:En):List Str:=e.x.2.lab::(if e.x.2.kind=9 then [e.x.2.text] else [])
abbrev TwS:=(Str→Option Int)×List Dg
def twN (e:En) (st:TwS) (n:Str):TwS:=
 if n=[] then st else (upd st.1 n ((st.1 n).getD 0+1),if 0<(st.1 n).getD 0 then st.2++[(e.frag,e.x.1,2)] else st.2)
def twE (st:TwS) (e:En):TwS:=(pR e).foldl (twN e) st
def tw0 (f:Str→Option Int):TwS:=(fun k=>(f k).map fun _=>1,[])
def A8 (f:Str→Option Int) (es:List En):List Dg:=(es.foldl twE (tw0 f)).2
def TwB (st:TwS) (b:Nat):Prop:=st.2.length≤b∧∀ k,0≤(st.1 k).getD 0∧(st.1 k).getD 0≤1+b
theorem TwB.step {st:TwS}{b:Nat}(h:TwB st b) (e:En) (n:Str):TwB (twN e st n) (b+1):=by
 unfold twN
 split
 ·exact⟨by have:=h.1;omega,fun k=>by have:=h.2 k;omega⟩
 ·refine⟨?_,fun k=>?_⟩
  ·have:=h.1
   simp only
   split
   ·simp;omega
   ·omega
  ·have:=h.2 k
   have:=h.2 n
   simp only[upd]
   split
   ·simp;omega
   ·omega
section
variable [Tabs]
variable {h0 h h':ae}{M:List Nat}{Q:QT}{K:AV→Prop}
variable {i js:Nat}{l:List (Nat×En)}{ds:List Dg}{lv dv kn:AV}{sz:Int}{kvs:KV}{EL ED R:Own}
theorem SS.memR {e:Nat×Bool×AObj}(h:e∈R):e∈(ED++((i,true,eR lv js kn dv sz)::(js,true,bF kvs)::(EL++(cA l++R)))):=
 List.mem_append_right _ (.tail _ (.tail _ (List.mem_append_right _ (List.mem_append_right _ h))))
theorem SS.back {e:Nat×Bool×AObj}(s:SS h0 M h i js l ds lv dv kn sz kvs EL ED (e::R)):St h0 M h (e::(ED++((i,true,eR lv js kn dv sz)::(js,true,bF kvs)::(EL++(cA l++R))))):=s.st.perm (by
 have hx:∀ R:Own,(ED++((i,true,eR lv js kn dv sz)::(js,true,bF kvs)::(EL++(cA l++R))))=(ED++((i,true,eR lv js kn dv sz)::(js,true,bF kvs)::(EL++cA l)))++R:=fun R=>by simp
 rw[hx R,hx (e::R)]
 exact List.perm_middle)
def chD (f:Str→Option Int) (es:List En) (e:En):List Dg:=if Hk f es e≠0 then [(e.frag,e.x.1,Hk f es e)] else []
theorem Te (f:Str→Option Int) (es:List En) (e:En):(chD f es e).length≤1:=by unfold chD;split<;>simp
theorem yh {β:Type}(g:En→List β) {l:List (Nat×En)}{q:Nat}(hq:q<l.length):((l.take (q+1)).map (·.2)).flatMap g=((l.take q).map (·.2)).flatMap g++g l[q].2:=by
 rw[List.take_succ_eq_append_getElem hq,List.map_append,List.flatMap_append,List.map_cons,List.map_nil,List.flatMap_cons,List.flatMap_nil,List.append_nil]
theorem Zv (hF:cB) (hL:dz) {f:Str→Option Int}{jk:Nat}{kvk:KV}(hl:l.length<10000000) (s:SS h0 M h i js l ds lv dv (.map jk) sz kvs EL ED R) (hds:ds=[]) (hk:(jk,true,bF kvk)∈R) (nd:(bP kvk).Nodup) (hf:∀ k,bw k kvk=f k) (w:∀ x∈l,PlE x.2)
  (k:∀ dv' ED' h',SS h0 M h' i js l ((l.map (·.2)).flatMap (chD f (l.map (·.2)))) lv dv' (.map jk) sz kvs EL ED' R→Q (.tup []) h'):C cp [.ptr i 0] h Q:=by
 subst hds
 refine zn _ _ _ ?_
 unfold tK
 have si:=St.startr s.src
 (repeat (first|refine au ?_|refine aj ?_|refine ag ‹_› (.head _) rfl ?_))
 refine s.row.len ?_
 clear si
 refine aQ (fun n vs h'=>∃ (q:Nat) (dv':AV) (ED':Own),vs=[I (q:Nat)]∧n+q=l.length∧SS h0 M h' i js l (((l.take q).map (·.2)).flatMap (chD f (l.map (·.2)))) lv dv' (.map jk) sz kvs EL ED' R) l.length ⟨0,dv,ED,rfl,by omega,s⟩ ?_
 rintro n vs h1 ⟨q,dv1,ED1,rfl,hn,s1⟩
 have hdl:=tJ (Te f (l.map (·.2))) ((l.take q).map (·.2))
 rw[List.length_map,List.length_take]at hdl
 unfold pH
 (repeat refine aJ ?_)
 refine ah (fun hq=>?_) (fun hq=>?_)<;>simp only[za,zb,zc,zd,ze,zf,zg,zh,zi,u8i,zj,zk,zl]at hq
 ·have hq:q<l.length:=hq
  have hm:=List.getElem_mem hq
  have hsucc:=yh (chD f (l.map (·.2))) hq
  refine s1.row.idx (fun _=>rfl) hq fun p t=>?_
  refine aK t ?_
  refine Xz hF hL (s1.ent _ hm) (w _ hm) s1.src ⟨kvk,s1.rget hk,nd,hf⟩ (by omega) s1.row s1.ent fun h2 f2=>?_
  have s2:=s1.call f2
  refine bU ?_
  refine ah (fun hb=>?_) (fun hb=>?_)<;>simp only[za,zb,zc,zd,ze,zf,zg,zh,zi,u8i,zj,zk,zl]at hb
  ·have sp2:=St.startr (s2.ent _ hm)
   unfold enE at sp2
   (repeat (first|refine au ?_|refine aj ?_|refine ag ‹_› (.head _) rfl ?_))
   refine BD (by omega) s2 fun dv' ED' h3 s3=>?_
   unfold gK kT
   refine aI (by omega) ?_
   refine⟨n-1,by omega,q+1,dv',ED',rfl,by omega,?_⟩
   rw[hsucc,chD,if_pos hb];exact s3
  ·unfold gK kT
   refine aI (by omega) ?_
   refine⟨n-1,by omega,q+1,dv1,ED1,rfl,by omega,?_⟩
   rw[hsucc,chD,if_neg (by simpa using hb)];simpa using s2
 ·have hq:q=l.length:=by omega
  subst hq
  rw[List.take_length]at s1
  exact k dv1 ED1 h1 s1
theorem aaA {sz bytes n m:Nat}{x:AV}{as1 cs:List AV}{L:Own}{KH:QT}(s:St h0 M h L) (r:Rd h sz x m cs) (ha:as1.length=n*sz) (hm:0<m) (hb:(n+m)*bytes≤1099511627776) (k1:∀ i h',St h0 M h' ((i,true,.cells (as1++cs))::L)→KH (.sl i 0 (n+m) sz) h'):
  bg sz bytes (.full n as1) x h KH:=⟨by
 simp only[eC,r.2]
 refine⟨⟨ha,hb⟩,?_⟩
 rw[if_neg (by omega)]
 exact k1 _ _ (s.push _)⟩
theorem Ia {e:En}{p jm b:Nat}(hm:(p,e)∈l) (hb:b<100000000) (nm:List Str) (hnm:nm.length≤2) {nv:AV}(hrow:∀ h dv ds ED kv,SS h0 M h i js l ds lv dv kn sz kvs EL ED ((jm,true,bF kv)::R)→Row sE 1 h nv nm)
  {st:TwS} (hst:TwB st b) {kv:KV} (nd:(bP kv).Nodup) (hf:∀ k,bw k kv=st.1 k) {q:Nat} (hq:q<1000000000) (s:SS h0 M h i js l st.2 lv dv kn sz kvs EL ED ((jm,true,bF kv)::R)) {next:NT}
  (k:∀ dv' ED' kv' h',TwB (nm.foldl (twN e) st) (b+nm.length)→(bP kv').Nodup→(∀ k,bw k kv'=(nm.foldl (twN e) st).1 k)→SS h0 M h' i js l (nm.foldl (twN e) st).2 lv dv' kn sz kvs EL ED' ((jm,true,bF kv')::R)→next [I ((q+1:Nat):Int)] h'):
  gk nv (.ptr p 0) (I (q:Nat)) (.map jm) (.ptr i 0) h next:=by
 unfold gk
 refine (hrow _ _ _ _ _ s).len ?_
 refine aQ (fun n vs h'=>∃ (t:Nat) (dv':AV) (ED':Own) (kv':KV),vs=[I (t:Nat)]∧n+t=nm.length∧TwB ((nm.take t).foldl (twN e) st) (b+t)∧(bP kv').Nodup∧(∀ k,bw k kv'=((nm.take t).foldl (twN e) st).1 k)∧SS h0 M h' i js l ((nm.take t).foldl (twN e) st).2 lv dv' kn sz kvs EL ED' ((jm,true,bF kv')::R)) nm.length ⟨0,dv,ED,kv,rfl,by omega,hst,nd,hf,s⟩ ?_
 rintro n vs h1 ⟨t,dv1,ED1,kv1,rfl,hn,hb1,nd1,hf1,s1⟩
 unfold o9
 (repeat refine aJ ?_)
 refine ah (fun ht=>?_) (fun ht=>?_)<;>simp only[za,zb,zc,zd,ze,zf,zg,zh,zi,u8i,zj,zk,zl]at ht
 ·have ht:t<nm.length:=ht
  refine (hrow _ _ _ _ _ s1).idx (fun _=>rfl) ht fun p2 t2=>?_
  refine aK t2 ?_
  have hsucc:(nm.take (t+1)).foldl (twN e) st=twN e ((nm.take t).foldl (twN e) st) nm[t]:=by
   rw[List.take_succ_eq_append_getElem ht,List.foldl_append];rfl
  have hb2:=hb1.step e nm[t]
  generalize hst1:(nm.take t).foldl (twN e) st=st1 at hb1 hf1 s1 hsucc hb2 ⊢
  refine aU ?_
  refine ah (fun he=>?_) (fun he=>?_)<;>simp only[za,zb,zc,zd,ze,zf,zg,zh,zi,u8i,zj,zk,zl]at he
  ·unfold gL kM
   refine aI (by omega) ?_
   refine⟨n-1,by omega,t+1,dv1,ED1,kv1,rfl,by omega,?_⟩
   rw[hsucc]
   refine⟨by rw[Nat.add_assoc]at hb2;exact hb2,nd1,?_⟩
   rw[twN,if_pos he]
   exact⟨hf1,s1⟩
  ·have he:nm[t]≠[]:=he
   have hbk:=hb1.2 nm[t]
   have hbl:=hb1.1
   have mm:MapAt h1 jm st1.1:=⟨kv1,s1.rget (.head _),nd1,hf1⟩
   refine mm.look0 ?_
   have hj12:∀ dv2 ED2 h2,SS h0 M h2 i js l (if 0<(st1.1 nm[t]).getD 0 then st1.2++[(e.frag,e.x.1,2)] else st1.2) lv dv2 kn sz kvs EL ED2 ((jm,true,bF kv1)::R)→gj (T nm[t]) (I (t:Nat)) (.map jm) h2 (fun vs' h'=>∃ m,m<n∧∃ (t:Nat) (dv':AV) (ED':Own) (kv':KV),vs'=[I (t:Nat)]∧m+t=nm.length∧TwB ((nm.take t).foldl (twN e) st) (b+t)∧(bP kv').Nodup∧(∀ k,bw k kv'=((nm.take t).foldl (twN e) st).1 k)∧SS h0 M h' i js l ((nm.take t).foldl (twN e) st).2 lv dv' kn sz kvs EL ED' ((jm,true,bF kv')::R)):=by
    intro dv2 ED2 h2 s2
    unfold gj
    have mm2:MapAt h2 jm st1.1:=⟨kv1,s2.rget (.head _),nd1,hf1⟩
    refine mm2.look0 ?_
    refine aI (by omega) ?_
    refine uz s2.st (SS.subR .head) fun h3 s3=>?_
    unfold gL kM
    refine aI (by omega) ?_
    refine⟨n-1,by omega,t+1,dv2,ED2,putA nm[t] ((st1.1 nm[t]).getD 0+1) kv1,rfl,by omega,?_⟩
    rw[hsucc]
    refine⟨by rw[Nat.add_assoc]at hb2;exact hb2,qR nd1,?_⟩
    rw[twN,if_neg he]
    exact⟨fun k=>by rw[nF,hf1];rfl,⟨s2.al,s2.ad,s3⟩⟩
   refine bD ?_
   refine ah (fun hg=>?_) (fun hg=>?_)<;>simp only[za,zb,zc,zd,ze,zf,zg,zh,zi,u8i,zj,zk,zl]at hg
   ·have sp:=St.startr (s1.ent _ hm)
    unfold enE at sp
    refine au (aj (ag sp (.head _) rfl (au (aj (aj (ag sp (.head _) rfl ?_))))))
    refine BD (by omega) s1 fun dv' ED' h3 s3=>?_
    exact hj12 dv' ED' h3 (by rw[if_pos hg];exact s3)
   ·exact hj12 dv1 ED1 h1 (by rw[if_neg (by omega)];exact s1)
 ·have ht:t=nm.length:=by omega
  subst ht
  rw[List.take_length]at hb1 hf1 s1
  refine aI (by omega) ?_
  exact k dv1 ED1 kv1 h1 hb1 nd1 hf1 s1
theorem X7 {f:Str→Option Int}(hl:l.length<10000000) (hds:ds=[]) (s:SS h0 M h i js l ds lv dv kn sz kvs EL ED R) (nd:(bP kvs).Nodup) (hf:∀ k,bw k kvs=f k)
  (k:∀ dv' ED' h',SS h0 M h' i js l (A8 f (l.map (·.2))) lv dv' kn sz kvs EL ED' R→Q (.tup []) h'):C cq [.ptr i 0] h Q:=by
 subst hds
 refine y7 _ _ _ ?_
 unfold tH
 refine qQ s.st fun jm h1 s1=>?_
 have s1:=s.front s1
 have si:=St.startr s1.src
 (repeat (first|refine au ?_|refine aj ?_|refine ag ‹_› (.head _) rfl ?_))
 clear si
 refine Ko s1.st s1.syms fun it h2 s2=>?_
 have s2:=s1.front s2
 refine aQ (fun n vs h'=>∃ (sn:List Nat) (kv:KV),vs=[]∧n+sn.length=kvs.length∧FillInv (fun _=>1) kvs sn kv∧SS h0 M h' i js l [] lv dv kn sz kvs EL ED ((it,true,KR js kvs sn)::(jm,true,bF kv)::R)) kvs.length ⟨[],[],rfl,by simp,.start,s2⟩ ?_
 rintro n vs h3 ⟨sn,kv,rfl,hn,fi,s3⟩
 unfold oG
 refine QJ s3.back s3.syms (fun hall=>?_) (fun q hq hnq h4 s4=>?_)
 ·refine aG rfl (ah (fun h=>by cases h) (fun _=>?_))
  have hdone:=fi.done hall
  have s5:=s3.unR (List.sublist_cons_self _ _)
  have si:=St.startr s5.src
  (repeat (first|refine au ?_|refine aj ?_|refine ag ‹_› (.head _) rfl ?_))
  clear si
  refine s5.row.len ?_
  refine aQ (fun n vs h'=>∃ (q:Nat) (dv':AV) (ED':Own) (kv':KV),vs=[I (q:Nat)]∧n+q=l.length∧TwB (((l.take q).map (·.2)).foldl twE (tw0 f)) (2*q)∧(bP kv').Nodup∧(∀ k,bw k kv'=(((l.take q).map (·.2)).foldl twE (tw0 f)).1 k)∧SS h0 M h' i js l (((l.take q).map (·.2)).foldl twE (tw0 f)).2 lv dv' kn sz kvs EL ED' ((jm,true,bF kv')::R)) l.length ⟨0,dv,ED,kv,rfl,by omega,⟨by simp[tw0],fun k=>by simp[tw0];cases f k<;>simp⟩,fi.nd,fun k=>by rw[hdone,hf];rfl,s5⟩ ?_
  rintro n vs h6 ⟨q,dv1,ED1,kv1,rfl,hn,hb1,nd1,hf1,s6⟩
  unfold oR
  (repeat refine aJ ?_)
  refine ah (fun hq=>?_) (fun hq=>?_)<;>simp only[za,zb,zc,zd,ze,zf,zg,zh,zi,u8i,zj,zk,zl]at hq
  ·have hq:q<l.length:=hq
   have hm:=List.getElem_mem hq
   have hsucc:((l.take (q+1)).map (·.2)).foldl twE (tw0 f)=twE (((l.take q).map (·.2)).foldl twE (tw0 f)) l[q].2:=by
    rw[List.take_succ_eq_append_getElem hq,List.map_append,List.foldl_append];rfl
   generalize hst1:((l.take q).map (·.2)).foldl twE (tw0 f)=st1 at hb1 hf1 s6 hsucc
   refine s6.row.idx (fun _=>rfl) hq fun p t=>?_
   refine aK t ?_
   have sp:=St.startr (s6.ent _ hm)
   unfold enE at sp
   refine au (aj (aj (ag sp (.head _) rfl (aB rfl rfl (au (aj (aj (ag sp (.head _) rfl (aA ?_)))))))))
   have fin:∀ (nm:List Str) (dv' ED' kv' h'),nm=pR l[q].2→TwB (nm.foldl (twN l[q].2) st1) (2*q+nm.length)→(bP kv').Nodup→(∀ k,bw k kv'=(nm.foldl (twN l[q].2) st1).1 k)→SS h0 M h' i js l (nm.foldl (twN l[q].2) st1).2 lv dv' kn sz kvs EL ED' ((jm,true,bF kv')::R)→nm.length≤2→
     (fun vs' h'=>∃ m,m<n∧∃ (q:Nat) (dv':AV) (ED':Own) (kv':KV),vs'=[I (q:Nat)]∧m+q=l.length∧TwB (((l.take q).map (·.2)).foldl twE (tw0 f)) (2*q)∧(bP kv').Nodup∧(∀ k,bw k kv'=(((l.take q).map (·.2)).foldl twE (tw0 f)).1 k)∧SS h0 M h' i js l (((l.take q).map (·.2)).foldl twE (tw0 f)).2 lv dv' kn sz kvs EL ED' ((jm,true,bF kv')::R)) [I ((q+1:Nat):Int)] h':=by
    rintro nm dv' ED' kv' h' rfl hb' nd' hf' s' hl2
    refine⟨n-1,by omega,q+1,dv',ED',kv',rfl,by omega,?_⟩
    rw[hsucc]
    exact⟨⟨by have:=hb'.1;unfold twE;omega,fun k=>by have:=hb'.2 k;unfold twE;omega⟩,nd',hf',s'⟩
   refine ah (fun h9=>?_) (fun h9=>?_)<;>simp only[za,zb,zc,zd,ze,zf,zg,zh,zi,u8i,zj,zk,zl]at h9
   ·have h9:l[q].2.x.2.kind=9:=by omega
    have hnm:[l[q].2.x.2.lab,l[q].2.x.2.text]=pR l[q].2:=by rw[pR,if_pos h9]
    refine au (aj (aj (ag sp (.head _) rfl (aB rfl rfl ?_))))
    refine aaA s6.st (Rd.full (n:=1) (cs:=[T l[q].2.x.2.text]) rfl) rfl (by decide) (by decide) fun jn h7 s7=>?_
    have s7:=s6.front s7
    have s8:SS h0 M h7 i js l st1.2 lv dv1 kn sz kvs EL ED1 ((jm,true,bF kv1)::(jn,true,.cells [T l[q].2.x.2.lab,T l[q].2.x.2.text])::R):=⟨s7.al,s7.ad,s7.st.perm (by
     refine List.Perm.append_left _ (List.Perm.cons _ (List.Perm.cons _ (List.Perm.append_left _ (List.Perm.append_left _ (List.Perm.swap _ _ _))))))⟩
    refine Ia (e:=l[q].2) hm (b:=2*q) (by omega) [l[q].2.x.2.lab,l[q].2.x.2.text] (by simp) (fun h dv ds ED kv s=>?_) hb1 nd1 hf1 (by omega) s8 fun dv' ED' kv' h' b1 n1 f1 s9=>?_
    ·exact Row.sl (enc:=sE) (l:=[l[q].2.x.2.lab,l[q].2.x.2.text]) (fun _=>rfl) (s.rget (.tail _ (.head _)))
    ·refine fin _ dv' ED' kv' h' hnm b1 n1 f1 ⟨s9.al,s9.ad,?_⟩ (by simp)
     exact (s9.unR (.cons₂ _ (List.sublist_cons_self _ _))).st
   ·have hnm:[l[q].2.x.2.lab]=pR l[q].2:=by rw[pR,if_neg (by omega)]
    refine Ia (e:=l[q].2) hm (b:=2*q) (by omega) [l[q].2.x.2.lab] (by simp) (fun h dv ds ED kv s=>?_) hb1 nd1 hf1 (by omega) s6 fun dv' ED' kv' h' b1 n1 f1 s9=>?_
    ·exact Row.full (enc:=sE) (fun _=>rfl) [l[q].2.x.2.lab]
    ·exact fin _ dv' ED' kv' h' hnm b1 n1 f1 s9 (by simp)
  ·have hq:q=l.length:=by omega
   subst hq
   rw[List.take_length]at s6
   exact k dv1 ED1 h6 (s6.unR (List.sublist_cons_self _ _))
 ·have s4:=(s3.unR (List.sublist_cons_self _ _)).front s4
  refine aG rfl (ah (fun _=>?_) (fun h=>by cases h))
  refine Lh s4.st (b:=true) (i:=it) (SS.memR (.head _)) s4.syms hq ?_
  refine aG rfl ?_
  refine uz s4.st (SS.subR (.tail .head)) fun h5 s5=>?_
  have hlt:=fi.less hq hnq
  exact⟨n-1,by omega,sn++[q],_,rfl,by simp;omega,fi.step nd hq hnq,⟨s4.al,s4.ad,s5⟩⟩
end
end
section
section
variable [Tabs]
def vL (e:En) (a:Int):En:=⟨e.frag,e.x,a,e.grown⟩
def oe (syms:Str→Option Int) (st:List En×Int) (e:En):List En×Int:=(st.1++[(vL e st.2)],st.2+pt syms (vL e st.2))
def db (syms:Str→Option Int) (es:List En):List En×Int:=es.foldl (oe syms) ([],0)
end
def aaK (f:Str→Option Int) (e:En):Str→Option Int:=if e.x.2.lab≠[] then upd f e.x.2.lab e.place else f
def Yr (f:Str→Option Int) (es:List En):Str→Option Int:=es.foldl aaK f
abbrev EqS:=(Str→Option Int)×Bool
def eX (st:EqS) (e:En):EqS:=if e.x.2.kind=9∧st.1 e.x.2.text=none∧(bN e.place st.1 (bQ e)).2=0 then (upd st.1 e.x.2.text (bN e.place st.1 (bQ e)).1,true) else st
def qm (es:List En) (f:Str→Option Int):EqS:=es.foldl eX (f,false)
def PO (es:List En):Nat→(Str→Option Int)→(Str→Option Int)
 | 0,f=>f
 | n+1,f=>if (qm es f).2=true then PO es n (qm es f).1 else (qm es f).1
def aaW (f:Str→Option Int) (e:En):Bool:=decide (e.x.2.kind=9)&&(f e.x.2.text).isNone
def und (es:List En) (f:Str→Option Int):Nat:=es.countP (aaW f)
theorem CP {α:Type}{p q:α→Bool}:∀ {l:List α},(∀ x∈l,p x=true→q x=true)→(∃ x∈l,q x=true∧p x=false)→l.countP p<l.countP q
 | [],_,⟨x,hx,_⟩=>by simp at hx
 | a::l,h1,⟨x,hx,hq,hp⟩=>by
   have hle:l.countP p≤l.countP q:=List.countP_mono_left fun y hy=>h1 y (.tail _ hy)
   rw[List.countP_cons,List.countP_cons]
   rcases List.mem_cons.1 hx with rfl|hx
   ·rw[hq,hp];simp;omega
   ·have:=CP (fun y hy=>h1 y (.tail _ hy)) ⟨x,hx,hq,hp⟩
    have h3:=h1 a (.head _)
    cases hpa:p a with
    | true=>rw[h3 hpa];simp;omega
    | false=>simp only[Bool.false_eq_true,if_false];split<;>omega
theorem OA (st:EqS) (e:En) (k:Str) (h:(st.1 k).isSome=true):((eX st e).1 k).isSome=true:=by
 unfold eX
 split
 ·simp only[upd];split
  ·rfl
  ·exact h
 ·exact h
theorem xa (k:Str):∀ (es:List En) (st:EqS),(st.1 k).isSome=true→((es.foldl eX st).1 k).isSome=true
 | [],_,h=>h
 | e::es,st,h=>xa k es _ (OA st e k h)
theorem IA:∀ (es:List En) (st:EqS),st.2=false→(es.foldl eX st).2=true→∃ e∈es,e.x.2.kind=9∧st.1 e.x.2.text=none∧((es.foldl eX st).1 e.x.2.text).isSome=true
 | [],st,h0,h=>by simp at h;rw[h0]at h;cases h
 | e::es,st,h0,h=>by
   rw[List.foldl_cons]at h ⊢
   by_cases hc:e.x.2.kind=9∧st.1 e.x.2.text=none∧(bN e.place st.1 (bQ e)).2=0
   ·refine⟨e,.head _,hc.1,hc.2.1,xa _ es _ ?_⟩
    unfold eX;rw[if_pos hc];simp[upd]
   ·have:eX st e=st:=by unfold eX;rw[if_neg hc]
    rw[this]at h ⊢
    obtain⟨x,hx,h1⟩:=IA es st h0 h
    exact⟨x,.tail _ hx,h1⟩
theorem NI {es:List En}{f:Str→Option Int}(h:(qm es f).2=true):und es (qm es f).1<und es f:=by
 obtain⟨e,he,h9,hn,hs⟩:=IA es (f,false) rfl h
 refine CP (fun x hx hp=>?_) ⟨e,he,?_,?_⟩
 ·unfold aaW at hp ⊢
  simp only[Bool.and_eq_true]at hp ⊢
  refine⟨hp.1,?_⟩
  cases hf:f x.x.2.text with
  | none=>rfl
  | some v=>
    have:=xa x.x.2.text es (f,false) (by simp[hf])
    unfold qm at hp
    simp only[Option.isNone_iff_eq_none]at hp
    rw[hp.2]at this;cases this
 ·unfold aaW;simp only at hn;rw[hn];simp[h9]
 ·unfold aaW
  unfold qm
  simp only[Bool.and_eq_false_iff]
  right
  cases hx:(List.foldl eX (f,false) es).1 e.x.2.text with
  | none=>rw[hx]at hs;cases hs
  | some v=>rfl
section
variable [Tabs]
def km (syms:Str→Option Int) (es:List En):List En×(Str→Option Int)×Int:=
 ((db syms es).1,PO (db syms es).1 (es.length+1) (Yr syms (db syms es).1),(db syms es).2)
theorem Bb (syms:Str→Option Int):∀ (es:List En) (st:List En×Int),(es.foldl (oe syms) st).1.length=st.1.length+es.length
 | [],st=>by simp
 | e::es,st=>by rw[List.foldl_cons,Bb syms es];simp[oe];omega
variable {h0 h h':ae}{M:List Nat}{Q:QT}{K:AV→Prop}
variable {i js:Nat}{l:List (Nat×En)}{ds:List Dg}{lv dv kn:AV}{sz:Int}{kvs:KV}{EL ED R:Own}
theorem ab4 {jk:Nat}{f F:Str→Option Int}{kv:KV}(hl:l.length<10000000) (w:∀ x∈l,WfS x.2.x.2) (nd:(bP kv).Nodup) (hf:∀ k,bw k kv=f k) (hF:F=PO (l.map (·.2)) (l.length+1) f) (s:SS h0 M h i js l ds lv dv (.map jk) sz kvs EL ED ((jk,true,bF kv)::R))
  (k:∀ kv' h',(bP kv').Nodup→(∀ k,bw k kv'=F k)→SS h0 M h' i js l ds lv dv (.map jk) sz kvs EL ED ((jk,true,bF kv')::R)→Q (.tup []) h'):
  cc [(B true)] h fun vs12 h next12=>il (.ptr i 0) Q vs12 h next12:=by
 generalize hes:l.map (·.2)=es at hF
 refine aQ (fun n vs h'=>∃ (f:Str→Option Int) (kv:KV),(bP kv).Nodup∧(∀ k,bw k kv=f k)∧SS h0 M h' i js l ds lv dv (.map jk) sz kvs EL ED ((jk,true,bF kv)::R)∧((vs=[B true]∧und es f<n∧PO es n f=F)∨(vs=[B false]∧f=F))) (l.length+1) ⟨f,kv,nd,hf,s,.inl ⟨rfl,?_,hF.symm⟩⟩ ?_
 ·have:und es f≤es.length:=List.countP_le_length
  rw[← hes,List.length_map]at this
  rw[← hes];omega
 rintro n vs h1 ⟨f1,kv1,nd1,hf1,s1,⟨rfl,hu,hfix⟩|⟨rfl,rfl⟩⟩
 ·unfold il
  refine ah (fun _=>?_) (fun h=>by cases h)
  obtain⟨m,rfl⟩:∃ m,n=m+1:=⟨n-1,by omega⟩
  rw[PO]at hfix
  have si:=St.startr s1.src
  (repeat (first|refine au ?_|refine aj ?_|refine ag ‹_› (.head _) rfl ?_))
  clear si
  refine s1.row.len ?_
  refine aQ (fun n2 vs h'=>∃ (q:Nat) (kv:KV),vs=[B ((es.take q).foldl eX (f1,false)).2,I (q:Nat)]∧n2+q=l.length∧(bP kv).Nodup∧(∀ k,bw k kv=((es.take q).foldl eX (f1,false)).1 k)∧SS h0 M h' i js l ds lv dv (.map jk) sz kvs EL ED ((jk,true,bF kv)::R)) l.length ⟨0,kv1,rfl,by omega,nd1,hf1,s1⟩ ?_
  rintro n2 vs h2 ⟨q,kv2,rfl,hn,nd2,hf2,s2⟩
  unfold qL
  (repeat refine aJ ?_)
  refine ah (fun hq=>?_) (fun hq=>?_)<;>simp only[za,zb,zc,zd,ze,zf,zg,zh,zi,u8i,zj,zk,zl]at hq
  ·have hq:q<l.length:=hq
   have hqe:q<es.length:=by rw[← hes];simpa using hq
   have heq:es[q]=l[q].2:=by subst hes;simp
   have hm:=List.getElem_mem hq
   have hw:=w _ hm
   have hsucc:(es.take (q+1)).foldl eX (f1,false)=eX ((es.take q).foldl eX (f1,false)) l[q].2:=by
    rw[List.take_succ_eq_append_getElem hqe,List.foldl_append,heq];rfl
   generalize hst:(es.take q).foldl eX (f1,false)=st at hf2 hsucc ⊢
   refine s2.row.idx (fun _=>rfl) hq fun p t=>?_
   refine aK t ?_
   have si:=St.startr s2.src
   have sp:=St.startr (s2.ent _ hm)
   unfold enE at sp
   refine au (aj (ag si (.head _) rfl (au (aj (aj (ag sp (.head _) rfl ?_))))))
   have mm:MapAt h2 jk st.1:=⟨kv2,s2.rget (.head _),nd2,hf2⟩
   refine mm.look ?_
   refine aG rfl (aG rfl (au (aj (aj (ag sp (.head _) rfl (bU ?_))))))
   have skip:eX st l[q].2=st→∀ h',SS h0 M h' i js l ds lv dv (.map jk) sz kvs EL ED ((jk,true,bF kv2)::R)→c8 (B st.2) (I (q:Nat)) h' (fun vs' h'=>∃ m,m<n2∧∃ (q:Nat) (kv:KV),vs'=[B ((es.take q).foldl eX (f1,false)).2,I (q:Nat)]∧m+q=l.length∧(bP kv).Nodup∧(∀ k,bw k kv=((es.take q).foldl eX (f1,false)).1 k)∧SS h0 M h' i js l ds lv dv (.map jk) sz kvs EL ED ((jk,true,bF kv)::R)):=by
    intro he h' s'
    unfold c8 lF
    refine aI (by omega) ?_
    refine⟨n2-1,by omega,q+1,kv2,?_⟩
    rw[hsucc,he]
    exact⟨rfl,by omega,nd2,hf2,s'⟩
   refine ah (fun h9=>?_) (fun h9=>?_)<;>simp only[za,zb,zc,zd,ze,zf,zg,zh,zi,u8i,zj,zk,zl]at h9
   ·exact skip (by unfold eX;rw[if_neg (fun hc=>by omega)]) h2 s2
   ·have h9:l[q].2.x.2.kind=9:=by omega
    cases hl:st.1 l[q].2.x.2.text with
    | some y=>
      refine ah (fun _=>?_) (fun h=>by cases h)
      exact skip (by unfold eX;rw[if_neg (fun hc=>by rw[hl]at hc;cases hc.2.1)]) h2 s2
    | none=>
      refine ah (fun h=>by cases h) (fun _=>?_)
      refine au (aj (ag sp (.head _) rfl (au (aj (ag si (.head _) rfl ?_)))))
      have hne:=hw.data (by omega) (by omega)
      have hlast:=yT hw hne
      refine yR (s2.ent _ hm) hw hne fun h3 f3=>?_
      refine⟨ag (si.call f3) (.head _) rfl rfl,ag (sp.call f3) (.head _) rfl rfl,?_⟩
      refine qB hlast.1 hlast.2 _ (mm.fr f3) fun h4 f4=>?_
      have s4:=(s2.call f3).call f4
      refine aG rfl (aG rfl (aA ?_))
      refine ah (fun he=>?_) (fun he=>?_)<;>simp only[za,zb,zc,zd,ze,zf,zg,zh,zi,u8i,zj,zk,zl]at he
      ·have si4:=St.startr s4.src
       have sp4:=St.startr (s4.ent _ hm)
       unfold enE at sp4
       refine au (aj (ag si4 (.head _) rfl (au (aj (aj (ag sp4 (.head _) rfl ?_))))))
       refine UM s4.st (by rw[hf2];exact hl) (SS.subR .head) fun h5 s5=>?_
       unfold c8 lF
       refine aI (by omega) ?_
       refine⟨n2-1,by omega,q+1,putA l[q].2.x.2.text (bN l[q].2.place st.1 (bQ l[q].2)).1 kv2,?_⟩
       rw[hsucc,eX,if_pos ⟨h9,hl,he⟩]
       exact⟨rfl,by omega,qR nd2,fun k=>by rw[nF,hf2];rfl,⟨s4.al,s4.ad,s5⟩⟩
      ·exact skip (by unfold eX;rw[if_neg (fun hc=>he hc.2.2)]) h4 s4
  ·have hql:es.length≤q:=by rw[← hes,List.length_map];omega
   rw[List.take_of_length_le hql]at hf2 ⊢
   have hr:qm es f1=es.foldl eX (f1,false):=rfl
   rw[← hr]at hf2 ⊢
   cases hmore:(qm es f1).2 with
   | true=>
     rw[if_pos hmore]at hfix
     have:=NI hmore
     exact⟨m,by omega,_,kv2,nd2,hf2,s2,.inl ⟨rfl,by omega,hfix⟩⟩
   | false=>
     rw[if_neg (by rw[hmore];simp)]at hfix
     exact⟨0,by omega,_,kv2,nd2,hf2,s2,.inr ⟨rfl,hfix⟩⟩
 ·unfold il
  refine ah (fun h=>by cases h) (fun _=>?_)
  exact k kv1 h1 nd1 hf1 s1
end
end
section
section
variable [Tabs]
variable {h0 h h':ae}{M:List Nat}{Q:QT}{K:AV→Prop}
variable {i js:Nat}{l:List (Nat×En)}{ds:List Dg}{lv dv kn:AV}{sz:Int}{kvs:KV}{EL ED R:Own}
theorem SzOk.place {f:Str→Option Int}{e:En}(h:SzOk f e) (at_:Int):SzOk f (vL e at_):=h
theorem yj (syms:Str→Option Int) {es:List En}{q:Nat}(hq:q<es.length):db syms (es.take (q+1))=oe syms (db syms (es.take q)) es[q]:=by
 unfold db
 rw[List.take_succ_eq_append_getElem hq,List.foldl_append];rfl
theorem CR {syms:Str→Option Int}{es:List En}(w:∀ e∈es,WfS e.x.2) (hs:∀ e∈es,SzOk syms e):∀ q,q≤es.length→0≤(db syms (es.take q)).2∧(db syms (es.take q)).2≤4000000000*(q:Int)
 | 0,_=>by simp[db]
 | q+1,hq=>by
   have ih:=CR w hs q (by omega)
   have hq:q<es.length:=by omega
   rw[yj syms hq]
   have hm:=List.getElem_mem hq
   have:=x7 (f:=syms) (e:=(vL es[q] (db syms (es.take q)).2)) (w es[q] hm) (SzOk.place (hs es[q] hm) _) ih.1
   simp only[oe];omega
theorem DN {syms:Str→Option Int}{es:List En}(w:∀ e∈es,WfS e.x.2) (hs:∀ e∈es,SzOk syms e):∀ q,q≤es.length→∀ e∈(db syms (es.take q)).1,(∃ e0∈es,e.x=e0.x∧e.frag=e0.frag∧e.grown=e0.grown)∧0≤e.place∧e.place≤4000000000*(q:Int)
 | 0,_,e,he=>by simp[db]at he
 | q+1,hq,e,he=>by
   have hq:q<es.length:=by omega
   have hin:=CR w hs q (by omega)
   rw[yj syms hq]at he
   simp only[oe,List.mem_append,List.mem_singleton]at he
   rcases he with he|rfl
   ·have:=DN w hs q (by omega) e he
    exact⟨this.1,this.2.1,by omega⟩
   ·exact⟨⟨es[q],List.getElem_mem hq,rfl,rfl,rfl⟩,hin.1,by simp only[vL];omega⟩
theorem XY (hl:l.length<100000) {f:Str→Option Int}{jk:Nat}{kv0:KV}(nds:(bP kvs).Nodup) (hfs:∀ k,bw k kvs=f k) (w:∀ x∈l,WfS x.2.x.2) (hs:∀ x∈l,SzOk f x.2) (nd0:(bP kv0).Nodup) (hf0:∀ k,bw k kv0=f k)
  (s:SS h0 M h i js l ds lv dv (.map jk) sz kvs EL ED ((jk,true,bF kv0)::R))
  (k:∀ l' kv' h',l'.map (·.1)=l.map (·.1)→l'.map (·.2)=(km f (l.map (·.2))).1→(bP kv').Nodup→(∀ k,bw k kv'=(km f (l.map (·.2))).2.1 k)→SS h0 M h' i js l' ds lv dv (.map jk) (km f (l.map (·.2))).2.2 kvs EL ED ((jk,true,bF kv')::R)→Q (.tup []) h'):
  cc [(I 0),(I 0)] h fun vs6 h next6=>lG (I (l.length:Nat)) lv (.ptr i 0) Q vs6 h next6:=by
 generalize hes:l.map (·.2)=es at k
 have hel:es.length=l.length:=by rw[← hes];simp
 have wes:∀ e∈es,WfS e.x.2:=by
  intro e he;rw[← hes,List.mem_map]at he;obtain⟨x,hx,rfl⟩:=he;exact w x hx
 have ses:∀ e∈es,SzOk f e:=by
  intro e he;rw[← hes,List.mem_map]at he;obtain⟨x,hx,rfl⟩:=he;exact hs x hx
 refine aQ (fun n vs h'=>∃ (q:Nat) (l':List (Nat×En)) (kv:KV),vs=[I (db f (es.take q)).2,I (q:Nat)]∧n+q=l.length∧l'.map (·.1)=l.map (·.1)∧l'.map (·.2)=(db f (es.take q)).1++es.drop q∧(bP kv).Nodup∧(∀ k,bw k kv=Yr f (db f (es.take q)).1 k)∧SS h0 M h' i js l' ds lv dv (.map jk) sz kvs EL ED ((jk,true,bF kv)::R)) l.length ⟨0,l,kv0,rfl,by omega,rfl,by rw[hes];rfl,nd0,hf0,s⟩ ?_
 rintro n vs h1 ⟨q,l1,kv1,rfl,hn,hp1,he1,nd1,hf1,s1⟩
 have hl1:l1.length=l.length:=by simpa using congrArg List.length hp1
 have hpl:=Bb f (es.take q) ([],0)
 have hpl:(db f (es.take q)).1.length=q:=by
  unfold db;rw[hpl,List.length_take];simp;omega
 unfold lG
 (repeat refine aJ ?_)
 refine ah (fun hq=>?_) (fun hq=>?_)<;>simp only[za,zb,zc,zd,ze,zf,zg,zh,zi,u8i,zj,zk,zl]at hq
 ·have hq:q<l1.length:=by omega
  have hqe:q<es.length:=by omega
  have hq0:q<l.length:=by omega
  have hm:=List.getElem_mem hq
  have hin:=CR wes ses q (by omega)
  have hsucc:=yj f hqe
  have hent:l1[q].2=es[q]:=by
   have:(l1.map (·.2))[q]?=some es[q]:=by
    rw[he1,List.getElem?_append_right (by omega),hpl];simp[hqe]
   rw[List.getElem?_map,List.getElem?_eq_getElem hq]at this
   simpa using this
  generalize hat:(db f (es.take q)).2=at_ at hin ⊢
  refine s1.row.idx (fun _=>rfl) hq fun p t=>?_
  refine aK t ?_
  refine au (aj ?_)
  refine ax (L':=ED++((i,true,eR lv js (.map jk) dv sz)::(js,true,bF kvs)::(EL++(cA (l1.set q (l1[q].1,(vL l1[q].2 at_)))++((jk,true,bF kv1)::R))))) (cs:=enE l1[q].2) s1.st (SS.subE hq (vL l1[q].2 at_)) rfl rfl rfl (nle rfl) fun h2 s2=>?_
  have s2:=s1.setE hq s2
  have hm2:(l1[q].1,(vL l1[q].2 at_))∈l1.set q (l1[q].1,(vL l1[q].2 at_)):=List.mem_set hq _
  have hmap1:(l1.set q (l1[q].1,(vL l1[q].2 at_))).map (·.1)=l.map (·.1):=by
   have h1:l1[q].1=(l1.map (·.1))[q]'(by simpa using hq):=by simp
   rw[List.map_set,h1,List.set_getElem_self];exact hp1
  have hmap2:(l1.set q (l1[q].1,(vL l1[q].2 at_))).map (·.2)=((db f (es.take q)).1++[(vL es[q] at_)])++es.drop (q+1):=by
   rw[List.map_set,he1,List.set_append_right _ _ (by omega),hpl,List.drop_eq_getElem_cons hqe,Nat.sub_self,List.set_cons_zero,hent,List.append_assoc]
   rfl
  have hw:WfS l1[q].2.x.2:=by rw[hent];exact wes _ (List.getElem_mem hqe)
  have hso:SzOk f (vL l1[q].2 at_):=by rw[hent];exact SzOk.place (ses _ (List.getElem_mem hqe)) _
  have hex:(vL l1[q].2 at_).x=l1[q].2.x:=rfl
  have hepl:(vL l1[q].2 at_).place=at_:=rfl
  have hpe:oe f (db f (es.take q)) es[q]=((db f (es.take q)).1++[(vL l1[q].2 at_)],at_+pt f (vL l1[q].2 at_)):=by rw[oe,hat,hent]
  rw[← hent]at hmap2
  generalize he2:(vL l1[q].2 at_)=e2 at s2 hm2 hmap1 hmap2 hso hex hepl hpe
  rw[← hex]at hw
  generalize hl2:l1.set q (l1[q].1,e2)=l2 at s2 hm2 hmap1 hmap2
  have sp:=St.startr (s2.ent _ hm2)
  unfold enE at sp
  have hj:∀ h3 kv3,(bP kv3).Nodup→(∀ k,bw k kv3=aaK (Yr f (db f (es.take q)).1) e2 k)→SS h0 M h3 i js l2 ds lv dv (.map jk) sz kvs EL ED ((jk,true,bF kv3)::R)→iI (.ptr l1[q].1 0) (I at_) (I (q:Nat)) (.ptr i 0) h3 (fun vs' h'=>∃ m,m<n∧∃ (q:Nat) (l':List (Nat×En)) (kv:KV),vs'=[I (db f (es.take q)).2,I (q:Nat)]∧m+q=l.length∧l'.map (·.1)=l.map (·.1)∧l'.map (·.2)=(db f (es.take q)).1++es.drop q∧(bP kv).Nodup∧(∀ k,bw k kv=Yr f (db f (es.take q)).1 k)∧SS h0 M h' i js l' ds lv dv (.map jk) sz kvs EL ED ((jk,true,bF kv)::R)):=by
   intro h3 kv3 nd3 hf3 s3
   unfold iI
   refine Th (e:=e2) (s3.ent _ hm2) hw s3.src ⟨kvs,s3.syms,nds,hfs⟩ hso (by rw[hepl];omega) fun h4 f4=>?_
   have hlong:=x7 (f:=f) (e:=e2) hw hso (by rw[hepl];exact hin.1)
   refine aI (by omega) ?_
   refine aI (by omega) ?_
   refine⟨n-1,by omega,q+1,l2,kv3,?_⟩
   rw[hsucc,hpe]
   refine⟨rfl,by omega,hmap1,?_,nd3,?_,s3.call f4⟩
   ·exact hmap2
   ·intro k;rw[hf3];simp only[Yr,List.foldl_append,List.foldl_cons,List.foldl_nil]
  refine au (aj (aj (ag sp (.head _) rfl (nD ?_))))
  refine ah (fun hlab=>?_) (fun hlab=>?_)<;>simp only[za,zb,zc,zd,ze,zf,zg,zh,zi,u8i,zj,zk,zl]at hlab
  ·have si:=St.startr s2.src
   refine au (aj (ag si (.head _) rfl (au (aj (aj (ag sp (.head _) rfl ?_))))))
   refine uz s2.st (SS.subR .head) fun h3 s3=>?_
   refine hj h3 _ (qR nd1) (fun k=>?_) ⟨s2.al,s2.ad,s3⟩
   rw[nF,hf1,aaK,if_pos (show e2.x.2.lab≠[] from hlab),hepl];rfl
  ·refine hj h2 kv1 nd1 (fun k=>?_) s2
   rw[hf1,aaK,if_neg (by simpa using hlab)]
 ·have hq:q=l.length:=by omega
  subst hq
  rw[show es.take l.length=es by rw[← hel,List.take_length]]at he1 hf1 ⊢
  rw[show es.drop l.length=[] by rw[← hel,List.drop_length],List.append_nil]at he1
  refine au (aj ?_)
  refine ax (L':=ED++((i,true,eR lv js (.map jk) dv (db f es).2)::(js,true,bF kvs)::(EL++(cA l1++((jk,true,bF kv1)::R))))) (cs:=[lv,.map js,.map jk,dv,I sz]) s1.st SS.subS rfl rfl rfl (nle rfl) fun h2 s2=>?_
  have s2:SS h0 M h2 i js l1 ds lv dv (.map jk) (db f es).2 kvs EL ED ((jk,true,bF kv1)::R):=⟨s1.al,s1.ad,s2⟩
  refine ab4 (F:=(km f es).2.1) (by omega) (fun x hx=>?_) nd1 hf1 ?_ s2 fun kv' h' nd' hf' s'=>?_
  ·have hx2:x.2∈(db f es).1:=by rw[← he1];exact List.mem_map.2 ⟨x,hx,rfl⟩
   have:=DN wes ses es.length (Nat.le_refl _) x.2 (by rw[List.take_length];exact hx2)
   obtain⟨⟨e0,h0,h1,_⟩,_⟩:=this
   rw[h1];exact wes _ h0
  ·rw[he1,hl1,← hel];rfl
  ·exact k l1 kv' h' hp1 he1 nd' hf' s'
theorem X3 (hl:l.length<100000) {f:Str→Option Int}(nds:(bP kvs).Nodup) (hfs:∀ k,bw k kvs=f k) (w:∀ x∈l,WfS x.2.x.2) (hs:∀ x∈l,SzOk f x.2)
  (s:SS h0 M h i js l ds lv dv kn sz kvs EL ED R)
  (k:∀ l' jk kv' h',l'.map (·.1)=l.map (·.1)→l'.map (·.2)=(km f (l.map (·.2))).1→(bP kv').Nodup→(∀ k,bw k kv'=(km f (l.map (·.2))).2.1 k)→SS h0 M h' i js l' ds lv dv (.map jk) (km f (l.map (·.2))).2.2 kvs EL ED ((jk,true,bF kv')::R)→Q (.tup []) h'):C iY [.ptr i 0] h Q:=by
 refine BM _ _ _ ?_
 unfold xU
 refine qQ s.st fun jk h1 s1=>?_
 have s1:=s.front s1
 refine au (aj ?_)
 refine ax (L':=ED++((i,true,eR lv js (.map jk) dv sz)::(js,true,bF kvs)::(EL++(cA l++((jk,true,.amap [] 0)::R))))) (cs:=[lv,.map js,kn,dv,I sz]) s1.st SS.subS rfl rfl rfl (nle rfl) fun h2 s2=>?_
 have s2:SS h0 M h2 i js l ds lv dv (.map jk) sz kvs EL ED ((jk,true,bF [])::R):=⟨s.al,s.ad,s2⟩
 have si:=St.startr s2.src
 (repeat (first|refine au ?_|refine aj ?_|refine ag ‹_› (.head _) rfl ?_))
 clear si
 refine Ko s2.st s2.syms fun it h3 s3=>?_
 have s3:=s2.front s3
 refine aQ (fun n vs h'=>∃ (sn:List Nat) (kv:KV),vs=[]∧n+sn.length=kvs.length∧FillInv (fun v=>v) kvs sn kv∧SS h0 M h' i js l ds lv dv (.map jk) sz kvs EL ED ((it,true,KR js kvs sn)::(jk,true,bF kv)::R)) kvs.length ⟨[],[],rfl,by simp,.start,s3⟩ ?_
 rintro n vs h4 ⟨sn,kv,rfl,hn,fi,s4⟩
 unfold qZ
 refine QJ s4.back s4.syms (fun hall=>?_) (fun q hq hnq h5 s5=>?_)
 ·refine aG rfl (ah (fun h=>by cases h) (fun _=>?_))
  have hdone:=fi.done hall
  have s5:=s4.unR (List.sublist_cons_self _ _)
  have si:=St.startr s5.src
  (repeat (first|refine au ?_|refine aj ?_|refine ag ‹_› (.head _) rfl ?_))
  clear si
  refine s5.row.len ?_
  refine XY hl nds hfs w hs fi.nd (fun k=>by rw[hdone,hfs];cases f k<;>rfl) s5 fun l' kv' h' a b c d e=>k l' jk kv' h' a b c d e
 ·have s5:=(s4.unR (List.sublist_cons_self _ _)).front s5
  refine aG rfl (ah (fun _=>?_) (fun h=>by cases h))
  refine Lh s5.st (b:=true) (i:=it) (SS.memR (.head _)) s5.syms hq ?_
  have si:=St.startr s5.src
  (repeat (first|refine au ?_|refine aj ?_|refine aG rfl ?_|refine ag ‹_› (.head _) rfl ?_))
  clear si
  refine uz s5.st (SS.subR (.tail .head)) fun h6 s6=>?_
  have hlt:=fi.less hq hnq
  exact⟨n-1,by omega,sn++[q],_,rfl,by simp;omega,fi.step nds hq hnq,⟨s5.al,s5.ad,s6⟩⟩
end
end
section
section
variable [Tabs]
def sI (f:Str→Option Int) (e:En):Bool:=decide (e.x.2.kind=2)&&(!e.grown&&(decide ((bN e.place f (bQ e)).2=0)&&!(nj (jZ 0) [(bN e.place f (bQ e)).1-e.place]).isSome))
end
def WC (e:En):En:=⟨e.frag,e.x,e.place,true⟩
def gX (x:Nat×En):Nat×En:=(x.1,WC x.2)
def grF (p:Nat×En→Bool):Nat→List (Nat×En)→List (Nat×En)
 | 0,l=>l
 | _+1,[]=>[]
 | t+1,x::l=>if p x=true then gX x::grF p t l else x::grF p (t+1) l
theorem Zy (p:Nat×En→Bool) (l:List (Nat×En)):grF p 0 l=l:=by cases l<;>simp[grF]
theorem HE (p:Nat×En→Bool):∀ (l:List (Nat×En)) (t:Nat) (ht:t<(l.filter p).length),∃ q,∃ hq:q<(grF p t l).length,(grF p t l)[q]=(l.filter p)[t]∧grF p (t+1) l=(grF p t l).set q (gX (l.filter p)[t])
 | [],t,ht=>by simp at ht
 | x::l,t,ht=>by
   by_cases hp:p x=true
   ·cases t with
    | zero=>exact⟨0,by simp[grF],by simp[grF,hp],by simp[grF,hp]⟩
    | succ t=>
      have ht2:t<(l.filter p).length:=by simpa [List.filter_cons,hp] using ht
      obtain⟨q,hq,h1,h2⟩:=HE p l t ht2
      refine⟨q+1,by simp[grF,hp];exact hq,?_,?_⟩
      ·simp[grF,hp,List.filter_cons,h1]
      ·simp[grF,hp,List.filter_cons,h2]
   ·have hf:(x::l).filter p=l.filter p:=by simp[List.filter_cons,hp]
    have ht2:t<(l.filter p).length:=by rw[hf]at ht;exact ht
    obtain⟨q,hq,h1,h2⟩:=HE p l t ht2
    cases t with
    | zero=>
      refine⟨q+1,by simp[grF]at hq ⊢;exact hq,?_,?_⟩
      ·simp[grF,hf];simpa [grF] using h1
      ·simp[grF,hp,hf];simpa [grF] using h2
    | succ t=>
      refine⟨q+1,by simp[grF,hp];exact hq,?_,?_⟩
      ·simp[grF,hp,hf,h1]
      ·simp[grF,hp,hf];simpa [grF] using h2
theorem FM (p:Nat×En→Bool):∀ l:List (Nat×En),grF p (l.filter p).length l=l.map fun x=>if p x=true then gX x else x
 | []=>by simp[grF]
 | x::l=>by
   by_cases hp:p x=true
   ·simp[List.filter_cons,hp,grF,FM p l]
   ·have hf:(x::l).filter p=l.filter p:=by simp[List.filter_cons,hp]
    rw[hf,List.map_cons,if_neg hp]
    cases hn:(l.filter p).length with
    | zero=>
      have:=FM p l
      rw[hn]at this
      simp only[grF]at this ⊢
      rw[← this]
    | succ n=>
      have:=FM p l
      rw[hn]at this
      rw[grF,if_neg hp,this]
section
variable [Tabs]
def nq (f:Str→Option Int) (e:En):En:=if sI f e=true then WC e else e
variable {h0 h h':ae}{M:List Nat}{Q:QT}{K:AV→Prop}
variable {i js:Nat}{l:List (Nat×En)}{ds:List Dg}{lv dv kn:AV}{sz:Int}{kvs:KV}{EL ED R:Own}
theorem SS.frontL {E:Own}(s':St h0 M h' (E++(ED++((i,true,eR lv js kn dv sz)::(js,true,bF kvs)::(EL++(cA l++R)))))) (s:SS h0 M h i js l ds lv dv kn sz kvs EL ED R):SS h0 M h' i js l ds lv dv kn sz kvs EL ED (E++R):=⟨s.al,s.ad,s'.perm (by
 have hx:∀ R:Own,(ED++((i,true,eR lv js kn dv sz)::(js,true,bF kvs)::(EL++(cA l++R))))=(ED++((i,true,eR lv js kn dv sz)::(js,true,bF kvs)::(EL++cA l)))++R:=fun R=>by simp
 rw[hx R,hx (E++R),← List.append_assoc,← List.append_assoc _ E]
 exact List.Perm.append_right _ List.perm_append_comm)⟩
theorem SS.backL {E:Own}(s:SS h0 M h i js l ds lv dv kn sz kvs EL ED (E++R)):St h0 M h (E++(ED++((i,true,eR lv js kn dv sz)::(js,true,bF kvs)::(EL++(cA l++R))))):=s.st.perm (by
 have hx:∀ R:Own,(ED++((i,true,eR lv js kn dv sz)::(js,true,bF kvs)::(EL++(cA l++R))))=(ED++((i,true,eR lv js kn dv sz)::(js,true,bF kvs)::(EL++cA l)))++R:=fun R=>by simp
 rw[hx R,hx (E++R)]
 exact List.perm_append_comm_assoc _ _ _)
theorem SS.unL {E:Own}(s:SS h0 M h i js l ds lv dv kn sz kvs EL ED (E++R)):SS h0 M h i js l ds lv dv kn sz kvs EL ED R:=s.unR (List.sublist_append_right _ _)
theorem X8:jZ 0<tbl.length:=by decide
theorem aab (hF:cB) (hL:dz) (hl:l.length<10000000) {f:Str→Option Int}{jk:Nat}{kv:KV}(nd:(bP kv).Nodup) (hf:∀ k,bw k kv=f k) (w:∀ x∈l,PlE x.2)
  (s:SS h0 M h i js l ds lv dv (.map jk) sz kvs EL ED ((jk,true,bF kv)::R))
  (k:∀ h',SS h0 M h' i js (l.map fun x=>(x.1,nq f x.2)) ds lv dv (.map jk) sz kvs EL ED ((jk,true,bF kv)::R)→Q (B ((l.map (·.2)).any (sI f))) h'):C lK [.ptr i 0] h Q:=by
 refine AE _ _ _ ?_
 unfold vU
 have si:=St.startr s.src
 (repeat (first|refine au ?_|refine aj ?_|refine ag ‹_› (.head _) rfl ?_))
 clear si
 refine s.row.len ?_
 let pB:Nat×En→Bool:=fun x=>sI f x.2
 refine aQ (fun n vs h'=>∃ (q:Nat) (v:AV) (E:Own),vs=[v,I (q:Nat)]∧n+q=l.length∧AccE 1 v ((l.take q).filter pB).length (((l.take q).filter pB).flatMap pE) E∧SS h0 M h' i js l ds lv dv (.map jk) sz kvs EL ED (E++((jk,true,bF kv)::R))) l.length ⟨0,.full 0 [],[],rfl,by omega,.none 1,s⟩ ?_
 rintro n vs h1 ⟨q,v,E,rfl,hn,a,s1⟩
 unfold pG
 (repeat refine aJ ?_)
 refine ah (fun hq=>?_) (fun hq=>?_)<;>simp only[za,zb,zc,zd,ze,zf,zg,zh,zi,u8i,zj,zk,zl]at hq
 ·have hq:q<l.length:=hq
  have hm:=List.getElem_mem hq
  have hw:=w _ hm
  have hlo:=hw.lo
  have hhi:=hw.hi
  have hfl:((l.take q).filter pB).length≤q:=by
   have:=List.length_filter_le pB (l.take q)
   rw[List.length_take]at this;omega
  refine s1.row.idx (fun _=>rfl) hq fun p t=>?_
  refine aK t ?_
  have sp:=St.startr (s1.ent _ hm)
  have si:=St.startr s1.src
  unfold enE at sp
  have hno:pB l[q]=false→(l.take (q+1)).filter pB=(l.take q).filter pB:=fun hb=>by
   rw[List.take_succ_eq_append_getElem hq,List.filter_append];simp[hb]
  have hyes:pB l[q]=true→(l.take (q+1)).filter pB=(l.take q).filter pB++[l[q]]:=fun hb=>by
   rw[List.take_succ_eq_append_getElem hq,List.filter_append];simp[hb]
  have skip:pB l[q]=false→∀ h',SS h0 M h' i js l ds lv dv (.map jk) sz kvs EL ED (E++((jk,true,bF kv)::R))→cM v (I (q:Nat)) h' (fun vs' h'=>∃ m,m<n∧∃ (q:Nat) (v:AV) (E:Own),vs'=[v,I (q:Nat)]∧m+q=l.length∧AccE 1 v ((l.take q).filter pB).length (((l.take q).filter pB).flatMap pE) E∧SS h0 M h' i js l ds lv dv (.map jk) sz kvs EL ED (E++((jk,true,bF kv)::R))):=by
   intro hb h' s'
   unfold cM lI
   refine aI (by omega) ?_
   exact⟨n-1,by omega,q+1,v,E,rfl,by omega,by rw[hno hb];exact a,s'⟩
  refine au (aj (aj (ag sp (.head _) rfl (bU ?_))))
  refine ah (fun h2=>?_) (fun h2=>?_)<;>simp only[za,zb,zc,zd,ze,zf,zg,zh,zi,u8i,zj,zk,zl]at h2
  ·exact skip (by show sI f l[q].2=false;unfold sI;rw[show decide (l[q].2.x.2.kind=2)=false by simp;omega];rfl) h1 s1
  ·have h2:l[q].2.x.2.kind=2:=by omega
   refine au (aj (ag sp (.head _) rfl ?_))
   have hgb:pB l[q]=(!l[q].2.grown&&(decide ((bN l[q].2.place f (bQ l[q].2)).2=0)&&!(nj (jZ 0) [(bN l[q].2.place f (bQ l[q].2)).1-l[q].2.place]).isSome)):=by
    show sI f l[q].2=_
    unfold sI;rw[show decide (l[q].2.x.2.kind=2)=true by simpa using h2,Bool.true_and]
   cases hg:l[q].2.grown with
   | true=>exact ah (fun _=>skip (by rw[hgb,hg];rfl) h1 s1) (fun h=>by cases h)
   | false=>
     refine ah (fun h=>by cases h) (fun _=>?_)
     rw[hg,Bool.not_false,Bool.true_and]at hgb
     have hrd:0<l[q].2.x.2.args.length:=by
      have:=(hw.wf.grow h2).2.1
      have h3:∀ n,n<3→0<(cV (bp (jZ n))).length:=by decide
      have:=h3 _ (hw.wf.grow h2).1
      omega
     have hne:l[q].2.x.2.args≠[]:=List.length_pos_iff.1 hrd
     have hlast:=yT hw.wf hne
     refine au (aj (ag sp (.head _) rfl (au (aj (ag si (.head _) rfl ?_)))))
     refine yR (s1.ent _ hm) hw.wf hne fun h3 f3=>?_
     refine⟨ag (si.call f3) (.head _) rfl rfl,ag (sp.call f3) (.head _) rfl rfl,?_⟩
     have mm:MapAt h1 jk f:=⟨kv,s1.rget (List.mem_append_right _ (.head _)),nd,hf⟩
     refine qB hlast.1 hlast.2 _ (mm.fr f3) fun h4 f4=>?_
     have s4:=(s1.call f3).call f4
     have hin:=IM l[q].2.place f (bQ l[q].2)
     generalize bN l[q].2.place f (bQ l[q].2)=ev at hgb hin ⊢
     refine aG rfl (aG rfl (aA ?_))
     refine ah (fun he=>?_) (fun he=>?_)<;>simp only[za,zb,zc,zd,ze,zf,zg,zh,zi,u8i,zj,zk,zl]at he
     ·rw[show decide (ev.2=0)=true by simpa using he,Bool.true_and]at hgb
      have sp4:=St.startr (s4.ent _ hm)
      unfold enE at sp4
      refine au (aj (ag sp4 (.head _) rfl (cD (by omega) (aB rfl rfl ?_))))
      refine Ou (n:=0) (by decide) fun h5 f5=>?_
      refine⟨ag (sp4.call f5) (.head _) rfl rfl,?_⟩
      refine aD rfl ?_
      have s5:=s4.call f5
      refine NL hF hL X8 [ev.1-l[q].2.place] (by intro x hx;simp at hx;subst hx;unfold dW;omega) (Row.full (enc:=iE) (fun _=>rfl) [ev.1-l[q].2.place]) fun h6 f6=>?_
      have s6:=s5.call f6
      refine bm ?_
      cases hc:(nj (jZ 0) [ev.1-l[q].2.place]).isSome with
      | true=>exact ah (fun h=>by cases h) (fun _=>skip (by rw[hgb,hc];rfl) h6 s6)
      | false=>
        refine ah (fun _=>?_) (fun h=>by cases h)
        refine aB rfl rfl ?_
        have hb:pB l[q]=true:=by rw[hgb,hc];rfl
        refine a.app s6.backL (xs:=pE l[q]) (m:=1) (Rd.full rfl) rfl (by omega) fun v3 E3 h8 a3 s8=>?_
        unfold cM lI
        refine aI (by omega) ?_
        refine⟨n-1,by omega,q+1,v3,E3,rfl,by omega,?_,SS.frontL s8 s6.unL⟩
        rw[hyes hb];simpa using a3
     ·exact skip (by rw[hgb,show decide (ev.2=0)=false by simpa using he];rfl) h4 s4
 ·have hq:q=l.length:=by omega
  subst hq
  rw[List.take_length]at a
  have hflen:(l.filter pB).length≤l.length:=List.length_filter_le _ _
  have rowF:∀ h l',SS h0 M h i js l' ds lv dv (.map jk) sz kvs EL ED (E++((jk,true,bF kv)::R))→Row pE 1 h v (l.filter pB):=fun h l' s=>a.rd s.backL
  refine (rowF _ _ s1).len ?_
  have hany:(l.map (·.2)).any (sI f)=decide (0<(l.filter pB).length):=by
   rw[List.any_map,Bool.eq_iff_iff,decide_eq_true_eq,List.any_eq_true]
   constructor
   ·rintro ⟨x,hx,hp⟩;exact List.length_pos_of_mem (List.mem_filter.2 ⟨hx,hp⟩)
   ·intro hp
    obtain⟨x,hx⟩:=List.exists_mem_of_length_pos hp
    rw[List.mem_filter]at hx
    exact⟨x,hx.1,hx.2⟩
  rw[hany]at k
  have hall:(l.map fun x=>(x.1,nq f x.2))=grF pB (l.filter pB).length l:=by
   rw[FM]
   apply List.map_congr_left
   intro x _
   unfold nq
   show _=if sI f x.2=true then _ else _
   split<;>rfl
  rw[hall]at k
  refine aQ (fun n vs h'=>∃ (t:Nat),vs=[I (t:Nat)]∧n+t=(l.filter pB).length∧SS h0 M h' i js (grF pB t l) ds lv dv (.map jk) sz kvs EL ED (E++((jk,true,bF kv)::R))) (l.filter pB).length ⟨0,rfl,by omega,by rw[Zy];exact s1⟩ ?_
  rintro n2 vs h2 ⟨t,rfl,hn2,s2⟩
  unfold pw
  (repeat refine aJ ?_)
  refine ah (fun ht=>?_) (fun ht=>?_)<;>simp only[za,zb,zc,zd,ze,zf,zg,zh,zi,u8i,zj,zk,zl]at ht
  ·have ht:t<(l.filter pB).length:=ht
   refine (rowF _ _ s2).idx (fun _=>rfl) ht fun p2 t2=>?_
   refine aK t2 ?_
   obtain⟨q,hq,h1q,h2q⟩:=HE pB l t ht
   rw[← h1q]at h2q ⊢
   refine au (aj ?_)
   refine ax (L':=ED++((i,true,eR lv js (.map jk) dv sz)::(js,true,bF kvs)::(EL++(cA ((grF pB t l).set q ((grF pB t l)[q].1,WC (grF pB t l)[q].2))++(E++((jk,true,bF kv)::R)))))) (cs:=enE (grF pB t l)[q].2) s2.st (SS.subE hq (WC (grF pB t l)[q].2)) rfl rfl rfl (nle rfl) fun h3 s3=>?_
   have s3:=s2.setE hq s3
   refine aI (by omega) ?_
   refine⟨n2-1,by omega,t+1,rfl,by omega,?_⟩
   rw[h2q];exact s3
  ·have ht:t=(l.filter pB).length:=by omega
   rw[ht]at s2
   refine (rowF _ _ s2).len ?_
   refine bD ?_
   rw[show decide ((0:Int)<((l.filter pB).length:Nat))=decide (0<(l.filter pB).length) by simp]
   exact k h2 s2.unL
end
end
section
section
variable [Tabs]
abbrev Pl:=List En×(Str→Option Int)×Int
def my (f:Str→Option Int):Nat→List En→Pl
 | 0,es=>km f es
 | n+1,es=>if (km f es).1.any (sI (km f es).2.1)=true then my f n ((km f es).1.map (nq (km f es).2.1)) else km f es
def unG (e:En):Bool:=decide (e.x.2.kind=2)&&!e.grown
theorem FS (f:Str→Option Int) (e:En):(nq f e).x=e.x∧(nq f e).frag=e.frag∧(nq f e).place=e.place:=by unfold nq;split<;>exact⟨rfl,rfl,rfl⟩
theorem G8 (syms:Str→Option Int):∀ (es:List En) (st:List En×Int),((es.foldl (oe syms) st).1).countP unG=st.1.countP unG+es.countP unG
 | [],st=>by simp
 | e::es,st=>by
   rw[List.foldl_cons,G8 syms es,List.countP_cons]
   simp only[oe,List.countP_append,List.countP_cons,List.countP_nil]
   have:unG (vL e st.2)=unG e:=rfl
   rw[this];omega
theorem Lb {f:Str→Option Int}{es:List En}(h:es.any (sI f)=true):(es.map (nq f)).countP unG<es.countP unG:=by
 rw[List.countP_map]
 refine CP (fun e he hp=>?_) ?_
 ·simp only[Function.comp]at hp
  unfold nq at hp
  split at hp
  ·simp[unG,WC]at hp
  ·exact hp
 ·rw[List.any_eq_true]at h
  obtain⟨e,he,hg⟩:=h
  refine⟨e,he,?_,?_⟩
  ·unfold sI at hg;unfold unG
   simp only[Bool.and_eq_true]at hg ⊢
   exact⟨hg.1,hg.2.1⟩
  ·simp only[Function.comp]
   unfold nq;rw[if_pos hg];simp[unG,WC]
theorem aaL {f:Str→Option Int}{es:List En}(h:es.any (sI f)=true):0<es.countP unG:=by
 have:=Lb h;omega
variable {h0 h h':ae}{M:List Nat}{Q:QT}{K:AV→Prop}
variable {i js:Nat}{l:List (Nat×En)}{ds:List Dg}{lv dv kn:AV}{sz:Int}{kvs:KV}{EL ED R:Own}
theorem RV {f:Str→Option Int}{es:List En}(hl:es.length<100000) (w:∀ e∈es,WfS e.x.2) (hs:∀ e∈es,SzOk f e):∀ e∈(km f es).1,PlE e∧SzOk f e:=by
 intro e he
 have:=DN w hs es.length (Nat.le_refl _) e (by rw[List.take_length];exact he)
 obtain⟨⟨e0,h0,h1,h2,h3⟩,h4,h5⟩:=this
 refine⟨⟨by rw[h1];exact w _ h0,h4,by omega⟩,?_⟩
 have:=hs _ h0
 unfold SzOk bQ Iv at this ⊢
 rw[h1];exact this
theorem q0 (f:Str→Option Int) (es:List En):(km f es).1.length=es.length:=by
 have:=Bb f es ([],0)
 simpa [km,db] using this
theorem Uu (hF:cB) (hL:dz) (hl:l.length<100000) {f:Str→Option Int}(nds:(bP kvs).Nodup) (hfs:∀ k,bw k kvs=f k) (w:∀ x∈l,WfS x.2.x.2) (hs:∀ x∈l,SzOk f x.2) (hds:ds=[])
  (s:SS h0 M h i js l ds lv dv kn sz kvs EL ED R)
  (k:∀ l' jk kv' dv' ED' h',l'.map (·.1)=l.map (·.1)→l'.map (·.2)=(my f l.length (l.map (·.2))).1→(∀ x∈l',PlE x.2∧SzOk f x.2)→(bP kv').Nodup→(∀ k,bw k kv'=(my f l.length (l.map (·.2))).2.1 k)→
   SS h0 M h' i js l' (if 4096<(my f l.length (l.map (·.2))).2.2 then [([],0,8)] else []) lv dv' (.map jk) (my f l.length (l.map (·.2))).2.2 kvs EL ED' ((jk,true,bF kv')::R)→Q (.tup []) h'):C cf [.ptr i 0] h Q:=by
 subst hds
 generalize hP:my f l.length (l.map (·.2))=P at k
 refine wx _ _ _ ?_
 unfold rL
 refine X3 hl nds hfs w hs s fun l1 jk1 kv1 h1 hm1 he1 nd1 hf1 s1=>?_
 have hw1:∀ e∈l.map (·.2),WfS e.x.2:=by
  intro e he;rw[List.mem_map]at he;obtain⟨x,hx,rfl⟩:=he;exact w x hx
 have hs1:∀ e∈l.map (·.2),SzOk f e:=by
  intro e he;rw[List.mem_map]at he;obtain⟨x,hx,rfl⟩:=he;exact hs x hx
 refine aQ (fun n vs h'=>∃ (es:List En) (l1:List (Nat×En)) (jk:Nat) (kv:KV),vs=[]∧es.length<100000∧(∀ e∈es,WfS e.x.2)∧(∀ e∈es,SzOk f e)∧l1.map (·.1)=l.map (·.1)∧l1.map (·.2)=(km f es).1∧(bP kv).Nodup∧(∀ k,bw k kv=(km f es).2.1 k)∧
  es.countP unG≤n∧my f n es=P∧SS h0 M h' i js l1 [] lv dv (.map jk) (km f es).2.2 kvs EL ED ((jk,true,bF kv)::R)) l.length ⟨l.map (·.2),l1,jk1,kv1,rfl,by simpa using hl,hw1,hs1,hm1,he1,nd1,hf1,by have:=List.countP_le_length (p:=unG) (l:=l.map (·.2));simpa using this,hP,s1⟩ ?_
 rintro n vs h2 ⟨es,l2,jk,kv,rfl,hel,hwe,hse,hm2,he2,nd2,hf2,hcnt,hfix,s2⟩
 unfold oJ
 have hl2:l2.length=l.length:=by simpa using congrArg List.length hm2
 have hwl:∀ x∈l2,PlE x.2∧SzOk f x.2:=fun x hx=>RV hel hwe hse x.2 (by rw[← he2];exact List.mem_map.2 ⟨x,hx,rfl⟩)
 have hcl:(km f es).1.countP unG=es.countP unG:=by
  have:=G8 f es ([],0)
  simpa [km,db] using this
 refine aab hF hL (by omega) nd2 hf2 (fun x hx=>(hwl x hx).1) s2 fun h3 s3=>?_
 rw[he2]
 cases hany:(km f es).1.any (sI (km f es).2.1) with
 | true=>
   refine ah (fun _=>?_) (fun h=>by cases h)
   have hpos:=aaL hany
   obtain⟨m,rfl⟩:∃ m,n=m+1:=⟨n-1,by omega⟩
   rw[my,if_pos hany]at hfix
   have hmap2:(l2.map fun x=>(x.1,nq (km f es).2.1 x.2)).map (·.2)=(km f es).1.map (nq (km f es).2.1):=by
    rw[List.map_map,← he2,List.map_map];rfl
   have hmap1:(l2.map fun x=>(x.1,nq (km f es).2.1 x.2)).map (·.1)=l.map (·.1):=by
    rw[List.map_map,← hm2];rfl
   refine X3 (by rw[List.length_map];omega) nds hfs (fun x hx=>?_) (fun x hx=>?_) s3 fun l4 jk4 kv4 h4 hm4 he4 nd4 hf4 s4=>?_
   ·rw[List.mem_map]at hx;obtain⟨y,hy,rfl⟩:=hx
    simp only[(FS _ _).1];exact (hwl y hy).1.wf
   ·rw[List.mem_map]at hx;obtain⟨y,hy,rfl⟩:=hx
    have:=(hwl y hy).2
    unfold SzOk bQ Iv at this ⊢
    simp only[(FS _ _).1];exact this
   rw[hmap2]at he4 hf4 s4
   refine⟨m,by omega,(km f es).1.map (nq (km f es).2.1),l4,jk4,kv4,rfl,by rw[List.length_map,q0];exact hel,fun e he=>?_,fun e he=>?_,by rw[hm4,hmap1],he4,nd4,hf4,?_,hfix,s4.unR ((List.sublist_cons_self _ _).cons₂ _)⟩
   ·rw[List.mem_map]at he;obtain⟨y,hy,rfl⟩:=he
    rw[(FS _ _).1];exact (RV hel hwe hse y hy).1.wf
   ·rw[List.mem_map]at he;obtain⟨y,hy,rfl⟩:=he
    have:=(RV hel hwe hse y hy).2
    unfold SzOk bQ Iv at this ⊢
    rw[(FS _ _).1];exact this
   ·have:=Lb hany;omega
 | false=>
   refine ah (fun h=>by cases h) (fun _=>?_)
   have hP2:km f es=P:=by
    rw[← hfix]
    cases n with
    | zero=>rfl
    | succ n=>rw[my,if_neg (by rw[hany];simp)]
   have hid:(l2.map fun x=>(x.1,nq (km f es).2.1 x.2))=l2:=by
    have:∀ x∈l2,(x.1,nq (km f es).2.1 x.2)=x:=by
     intro x hx
     have hx2:x.2∈(km f es).1:=by rw[← he2];exact List.mem_map.2 ⟨x,hx,rfl⟩
     rw[List.any_eq_false]at hany
     have:=hany _ hx2
     unfold nq;rw[if_neg this]
    conv=>rhs;rw[← List.map_id l2]
    exact List.map_congr_left this
   rw[hid]at s3
   rw[hP2]at he2 hf2 s3
   have si:=St.startr s3.src
   (repeat (first|refine au ?_|refine aj ?_|refine bD ?_|refine ag ‹_› (.head _) rfl ?_))
   clear si
   refine ah (fun hb=>?_) (fun hb=>?_)<;>simp only[za,zb,zc,zd,ze,zf,zg,zh,zi,u8i,zj,zk,zl]at hb
   ·rw[if_pos hb]at k
    refine BD (by simp) s3 fun dv' ED' h4 s4=>?_
    exact k l2 jk kv dv' ED' h4 hm2 he2 hwl nd2 hf2 s4
   ·rw[if_neg (by omega)]at k
    exact k l2 jk kv dv ED h3 hm2 he2 hwl nd2 hf2 s3
end
end
section
abbrev Fg:=Str×Str
def frE (x:Fg):List AV:=[T x.1,T x.2]
def acV (f:Str→Option Int) (y:Sy):Str→Option Int:=upd f y.1 y.2
def lH (syms:List Sy):Str→Option Int:=syms.foldl acV fun _=>none
def mkE (n:Str) (x:Sm):En:=⟨n,x,0,false⟩
section
variable [Tabs]
def wO (x:Fg):List En:=(ra x.2).map (mkE x.1)
def zK (x:Fg):List Dg:=(vy x.2).map fun k=>(x.1,k,1)
def kF (l:List Fg):List En:=l.flatMap wO
def Bv (l:List Fg):List Dg:=l.flatMap zK
variable {h0 h h':ae}{M:List Nat}{Q:QT}{K:AV→Prop}{KS:ae→Prop}
variable {i js:Nat}{l:List (Nat×En)}{ds:List Dg}{lv dv kn:AV}{sz:Int}{kvs:KV}{EL ED R:Own}
theorem SS.subK {kvs':KV}:Sub (ED++((i,true,eR lv js kn dv sz)::(js,true,bF kvs)::(EL++(cA l++R)))) (js,true,bF kvs) (ED++((i,true,eR lv js kn dv sz)::(js,true,bF kvs')::(EL++(cA l++R)))) (js,true,bF kvs'):=Sub.pre (.tail .head) _
theorem aak {e:En}{p:Nat}(hl:l.length<1000000000) (s:SS h0 M h i js l ds lv dv kn sz kvs EL ED ((p,true,.cells (enE e))::R))
  (k:∀ lv' EL' h',SS h0 M h' i js (l++[(p,e)]) ds lv' dv kn sz kvs EL' ED R→KS h'):bg 1 8 lv (.full 1 [.ptr p 0]) h fun t63 h14=>aE (.ptr i 0) fun t64=>ab 0 t64 fun t65=>ak 1 t65 t63 h14 KS:=by
 have hz:cA l++((p,true,AObj.cells (enE e))::R)=cA (l++[(p,e)])++R:=by simp[cA]
 have hx:∀ (lv:AV) (EL:Own),(ED++((i,true,eR lv js kn dv sz)::(js,true,bF kvs)::(EL++(cA (l++[(p,e)])++R))))=(ED++[(i,true,eR lv js kn dv sz),(js,true,bF kvs)])++(EL++(cA (l++[(p,e)])++R)):=fun lv EL=>by simp
 have hy:∀ (lv:AV),(ED++((i,true,eR lv js kn dv sz)::(js,true,bF kvs)::(cA (l++[(p,e)])++R)))=(ED++[(i,true,eR lv js kn dv sz),(js,true,bF kvs)])++(cA (l++[(p,e)])++R):=fun lv=>by simp
 have hs:=s.st
 rw[hz,hx]at hs
 refine s.al.app (hs.perm (List.perm_append_comm_assoc _ _ _)) (xs:=pE (p,e)) (m:=1) (Rd.full rfl) rfl (by omega) fun lv' EL' h1 a1 s1=>?_
 rw[← hy]at s1
 refine au (aj ?_)
 refine Dh (L':=EL'++(ED++((i,true,eR lv' js kn dv sz)::(js,true,bF kvs)::(cA (l++[(p,e)])++R)))) a1.v1 s1 (Sub.pre (Sub.pre .head _) _) (nle rfl) fun h2 s2=>?_
 rw[hy]at s2
 refine k lv' EL' h2 ⟨by simpa using a1,s.ad,?_⟩
 rw[hx]
 exact s2.perm (List.perm_append_comm_assoc _ _ _)
theorem wc {α β:Type}(g:α→List β) (l:List α) (q:Nat):((l.take q).flatMap g).length≤(l.flatMap g).length:=by
 conv=>rhs;rw[← List.take_append_drop q l]
 rw[List.flatMap_append,List.length_append];omega
theorem jq {α β:Type}(g:α→List β) {l:List α}{q:Nat}(hq:q<l.length):(l.take (q+1)).flatMap g=(l.take q).flatMap g++g l[q]:=by
 rw[List.take_succ_eq_append_getElem hq,List.flatMap_append,List.flatMap_cons,List.flatMap_nil,List.append_nil]
theorem ZX (hF:cB) (hI:gH) (hA:ju) {frags:List Fg}{syms:List Sy}{fv sv:AV}(rf:Row frE 2 h fv frags) (rs:Row syE 2 h sv syms) (hfl:frags.length<1000000) (hsl:syms.length<1000000) (he:(kF frags).length<100000) (hd:(Bv frags).length<1000000) (ht:∀ x∈frags,x.2.length<1000000000)
  (k:∀ i js l lv dv kvs EL ED h',l.map (·.2)=kF frags→(bP kvs).Nodup→(∀ k,bw k kvs=lH syms k)→SS h [] h' i js l (Bv frags) lv dv (.lit (.map none)) 0 kvs EL ED []→Q (.ptr i 0) h'):C yl [fv,sv] h Q:=by
 refine Oy _ _ _ _ ?_
 unfold N9
 refine qQ (St.start h) fun js h1 s1=>?_
 refine aD rfl ?_
 refine bB s1 rfl fun i h2 s2=>?_
 have s2:SS h [] h2 i js [] [] (.full 0 []) (.full 0 []) (.lit (.map none)) 0 [] [] [] []:=⟨.none 1,.none 3,s2⟩
 refine rs.len ?_
 refine aQ (fun n vs h'=>∃ (q:Nat) (kvs:KV),vs=[I (q:Nat)]∧n+q=syms.length∧(bP kvs).Nodup∧(∀ k,bw k kvs=((syms.take q).foldl acV fun _=>none) k)∧SS h [] h' i js [] [] (.full 0 []) (.full 0 []) (.lit (.map none)) 0 kvs [] [] []) syms.length ⟨0,[],rfl,by omega,by simp[bP],fun k=>rfl,s2⟩ ?_
 rintro n vs h3 ⟨q,kvs,rfl,hn,nd,hf,s3⟩
 unfold Cw
 (repeat refine aJ ?_)
 refine ah (fun hq=>?_) (fun hq=>?_)<;>simp only[za,zb,zc,zd,ze,zf,zg,zh,zi,u8i,zj,zk,zl]at hq
 ·have hq:q<syms.length:=hq
  refine (rs.fr s3.st.fr).idx (fun _=>rfl) hq fun p t=>?_
  refine bq t rfl ?_
  refine aM s3.st fun t7 h4 s4=>?_
  have s4:=s3.front s4
  refine ax (L':=[]++((i,true,eR (.full 0 []) js (.lit (.map none)) (.full 0 []) 0)::(js,true,bF kvs)::([]++(cA []++((t7,true,.cells (syE syms[q]))::[]))))) (cs:=[T [],I 0]) s4.st (SS.subR .head) rfl rfl rfl (nle rfl) fun h5 s5=>?_
  have s5:SS h [] h5 i js [] [] (.full 0 []) (.full 0 []) (.lit (.map none)) 0 kvs [] [] [(t7,true,.cells (syE syms[q]))]:=⟨.none 1,.none 3,s5⟩
  have si:=St.startr s5.src
  refine au (aj (ag si (.head _) rfl (aj (ag s5.st (SS.memR (.head _)) rfl (aj (ag s5.st (SS.memR (.head _)) rfl ?_))))))
  refine uz s5.st SS.subK fun h6 s6=>?_
  refine aI (by omega) ?_
  have s6:SS h [] h6 i js [] [] (.full 0 []) (.full 0 []) (.lit (.map none)) 0 (putA syms[q].1 syms[q].2 kvs) [] [] [(t7,true,.cells (syE syms[q]))]:=⟨.none 1,.none 3,s6⟩
  refine⟨n-1,by omega,q+1,_,rfl,by omega,qR nd,fun k=>?_,s6.unR (List.nil_sublist _)⟩
  rw[List.take_succ_eq_append_getElem hq,List.foldl_append,nF,hf];rfl
 ·have hq:q=syms.length:=by omega
  subst hq
  rw[List.take_length]at hf
  refine (rf.fr s3.st.fr).len ?_
  refine aQ (fun n vs h'=>∃ (q:Nat) (l:List (Nat×En)) (lv dv:AV) (EL ED:Own),vs=[I (q:Nat)]∧n+q=frags.length∧l.map (·.2)=(frags.take q).flatMap wO∧SS h [] h' i js l ((frags.take q).flatMap zK) lv dv (.lit (.map none)) 0 kvs EL ED []) frags.length ⟨0,[],.full 0 [],.full 0 [],[],[],rfl,by omega,rfl,s3⟩ ?_
  rintro n vs h4 ⟨q,l,lv,dv,EL,ED,rfl,hn,hel,s4⟩
  unfold Cx
  (repeat refine aJ ?_)
  refine ah (fun hq=>?_) (fun hq=>?_)<;>simp only[za,zb,zc,zd,ze,zf,zg,zh,zi,u8i,zj,zk,zl]at hq
  ·have hq:q<frags.length:=hq
   refine (rf.fr s4.st.fr).idx (fun _=>rfl) hq fun p t=>?_
   refine bq t rfl ?_
   have htl:=ht _ (List.getElem_mem hq)
   have hle:=wc wO frags (q+1)
   have hld:=wc zK frags (q+1)
   rw[jq wO hq,List.length_append]at hle
   rw[jq zK hq,List.length_append]at hld
   have hll:l.length=((frags.take q).flatMap wO).length:=by rw[← hel];simp
   have he':(frags.flatMap wO).length<100000:=he
   have hd':(frags.flatMap zK).length<1000000:=hd
   have hle:=Nat.lt_of_le_of_lt hle he'
   have hld:=Nat.lt_of_le_of_lt hld hd'
   have hsE:=jq wO hq
   have hsD:=jq zK hq
   have hfrE:wO frags[q]=(ra frags[q].2).map (mkE frags[q].1):=rfl
   have hfrD:zK frags[q]=(vy frags[q].2).map fun k=>(frags[q].1,k,1):=rfl
   rw[hfrE]at hle hsE
   rw[hfrD]at hld hsD
   generalize hfr:frags[q]=fr at htl hle hld hsE hsD ⊢
   generalize hpe:(frags.take q).flatMap wO=pe at hel hle hll hsE
   generalize hpd:(frags.take q).flatMap zK=pd at s4 hld hsD
   refine aM s4.st fun t9 h5 s5=>?_
   have s5:=s4.front s5
   refine ax (L':=ED++((i,true,eR lv js (.lit (.map none)) dv 0)::(js,true,bF kvs)::(EL++(cA l++((t9,true,.cells (frE fr))::[]))))) (cs:=[T [],T []]) s5.st (SS.subR .head) rfl rfl rfl (nle rfl) fun h6 s6=>?_
   have s6:SS h [] h6 i js l pd lv dv (.lit (.map none)) 0 kvs EL ED [(t9,true,.cells (frE fr))]:=⟨s4.al,s4.ad,s6⟩
   refine aj (ag s6.st (SS.memR (.head _)) rfl ?_)
   refine Lu hF hI hA fr.2 htl fun h7 f7=>?_
   have s7:=s6.call f7
   refine aG rfl (aG rfl ?_)
   have RS:∀ h,Row smF 6 h (.snap (ra fr.2).length ((ra fr.2).flatMap smF)) (ra fr.2):=fun h=>Row.snap (enc:=smF) (fun _=>rfl) _
   have RB:∀ h,Row nE 1 h (.snap (vy fr.2).length ((vy fr.2).flatMap nE)) (vy fr.2):=fun h=>Row.snap (enc:=nE) (fun _=>rfl) _
   rw[List.length_map]at hle hld
   generalize ra fr.2=ps at RS hle hsE ⊢
   generalize vy fr.2=pb at RB hld hsD ⊢
   refine (RS h7).len ?_
   refine aQ (fun n2 vs h'=>∃ (j:Nat) (l:List (Nat×En)) (lv:AV) (EL:Own),vs=[I (j:Nat)]∧n2+j=ps.length∧l.map (·.2)=pe++(ps.take j).map (mkE fr.1)∧SS h [] h' i js l pd lv dv (.lit (.map none)) 0 kvs EL ED [(t9,true,.cells (frE fr))]) ps.length ⟨0,l,lv,EL,rfl,by omega,by simpa using hel,s7⟩ ?_
   rintro n2 vs h8 ⟨j,l8,lv8,EL8,rfl,hn2,hel8,s8⟩
   unfold Bq
   have hl8:l8.length≤100000:=by
    have:=congrArg List.length hel8
    simp only[List.length_map,List.length_append,List.length_take]at this
    omega
   (repeat refine aJ ?_)
   refine ah (fun hj=>?_) (fun hj=>?_)<;>simp only[za,zb,zc,zd,ze,zf,zg,zh,zi,u8i,zj,zk,zl]at hj
   ·have hj:j<ps.length:=hj
    refine (RS h8).idx (fun _=>rfl) hj fun p t=>?_
    refine bq t rfl ?_
    refine aM s8.st fun t13 h9 s9=>?_
    have s9:=s8.front s9
    refine ax (L':=ED++((i,true,eR lv8 js (.lit (.map none)) dv 0)::(js,true,bF kvs)::(EL8++(cA l8++((t13,true,.cells (smF ps[j]))::(t9,true,.cells (frE fr))::[]))))) (cs:=[I 0,T [],I 0,I 0,T [],.full 0 []]) s9.st (SS.subR .head) rfl rfl rfl (nle rfl) fun h10 s10=>?_
    have s10:SS h [] h10 i js l8 pd lv8 dv (.lit (.map none)) 0 kvs EL8 ED [(t13,true,.cells (smF ps[j])),(t9,true,.cells (frE fr))]:=⟨s8.al,s8.ad,s10⟩
    have si:=St.startr s10.src
    refine au (aj (ag si (.head _) rfl (aj (ag s10.st (SS.memR (.tail _ (.head _))) rfl ?_))))
    refine aF s10.st (SS.memR (.head _)) (nle rfl) ?_
    refine aD rfl ?_
    refine bB s10.st rfl fun p11 h11 s11=>?_
    have s11:SS h [] h11 i js l8 pd lv8 dv (.lit (.map none)) 0 kvs EL8 ED ((p11,true,.cells (enE (mkE fr.1 ps[j])))::[(t13,true,.cells (smF ps[j])),(t9,true,.cells (frE fr))]):=s10.front s11
    have si11:=St.startr s11.src
    refine⟨ag si11 (.head _) rfl rfl,aB rfl rfl ?_⟩
    refine aak (e:=mkE fr.1 ps[j]) (p:=p11) (by omega) s11 fun lv' EL' h12 s12=>?_
    refine aI (by omega) ?_
    refine⟨n2-1,by omega,j+1,l8++[(p11,mkE fr.1 ps[j])],lv',EL',rfl,by omega,?_,s12.unR (List.sublist_cons_self _ _)⟩
    rw[List.map_append,hel8,List.take_succ_eq_append_getElem hj,List.map_append,List.append_assoc];rfl
   ·have hj:j=ps.length:=by omega
    subst hj
    rw[List.take_length]at hel8
    refine (RB h8).len ?_
    refine aQ (fun n3 vs h'=>∃ (b:Nat) (dv:AV) (ED:Own),vs=[I (b:Nat)]∧n3+b=pb.length∧SS h [] h' i js l8 (pd++(pb.take b).map fun k=>(fr.1,k,1)) lv8 dv (.lit (.map none)) 0 kvs EL8 ED [(t9,true,.cells (frE fr))]) pb.length ⟨0,dv,ED,rfl,by omega,by simpa using s8⟩ ?_
    rintro n3 vs h9 ⟨b,dv9,ED9,rfl,hn3,s9⟩
    unfold BW
    (repeat refine aJ ?_)
    refine ah (fun hb=>?_) (fun hb=>?_)<;>simp only[za,zb,zc,zd,ze,zf,zg,zh,zi,u8i,zj,zk,zl]at hb
    ·have hb:b<pb.length:=hb
     refine (RB h9).idx (fun _=>rfl) hb fun p t=>?_
     refine aK t ?_
     refine aj (ag s9.st (SS.memR (.head _)) rfl ?_)
     refine BD (by simp;omega) s9 fun dv' ED' h10 s10=>?_
     refine aI (by omega) ?_
     refine⟨n3-1,by omega,b+1,dv',ED',rfl,by omega,?_⟩
     rw[List.take_succ_eq_append_getElem hb,List.map_append,← List.append_assoc];exact s10
    ·have hb:b=pb.length:=by omega
     subst hb
     rw[List.take_length]at s9
     refine aI (by omega) ?_
     refine⟨n-1,by omega,q+1,l8,lv8,dv9,EL8,ED9,rfl,by omega,?_,?_⟩
     ·rw[hsE];exact hel8
     ·rw[hsD];exact s9.unR (List.nil_sublist _)
  ·have hq:q=frags.length:=by omega
   subst hq
   rw[List.take_length]at hel s4
   exact k i js l lv dv kvs EL ED h4 hel nd hf s4
end
end
section
section
variable [Tabs]
def dq (frags:List Fg) (syms:List Sy):Pl:=my (lH syms) (kF frags).length (kF frags)
def kB (frags:List Fg) (syms:List Sy):List Dg:=
 if Bv frags≠[] then Bv frags
 else if A8 (lH syms) (kF frags)≠[] then A8 (lH syms) (kF frags)
 else if (kF frags).flatMap (szD (lH syms))≠[] then (kF frags).flatMap (szD (lH syms))
 else if 4096<(dq frags syms).2.2 then [([],0,8)]
 else (dq frags syms).1.flatMap (chD (dq frags syms).2.1 (dq frags syms).1)
def vI (frags:List Fg) (syms:List Sy):List Int:=(dq frags syms).1.flatMap (po (lH syms) (dq frags syms).2.1)
structure Few (frags:List Fg) (syms:List Sy):Prop where
 nf:frags.length<1000000
 ns:syms.length<1000000
 ents:(kF frags).length<100000
 bads:(Bv frags).length<1000000
 texts:∀ x∈frags,x.2.length<1000000000
 wf:∀ e∈kF frags,WfS e.x.2
variable {h0 h h':ae}{M:List Nat}{Q:QT}{K:AV→Prop}{KS:ae→Prop}
theorem aaR (hF:cB) (hI:gH) (hA:ju) (hL:dz) {frags:List Fg}{syms:List Sy}{fv sv:AV}(rf:Row frE 2 h fv frags) (rs:Row syE 2 h sv syms) (hw:Few frags syms)
  (kb:kB frags syms≠[]→∀ i js l lv dv kn sz kvs EL ED R h',SS h [] h' i js l (kB frags syms) lv dv kn sz kvs EL ED R→Q (.ptr i 0) h')
  (kg:kB frags syms=[]→∀ i js l lv dv jk kvk kvs EL ED R h',l.map (·.2)=(dq frags syms).1→(∀ x∈l,PlE x.2∧SzOk (lH syms) x.2)→(bP kvs).Nodup→(∀ k,bw k kvs=lH syms k)→(bP kvk).Nodup→(∀ k,bw k kvk=(dq frags syms).2.1 k)→
   SS h [] h' i js l [] lv dv (.map jk) (dq frags syms).2.2 kvs EL ED ((jk,true,bF kvk)::R)→Q (.ptr i 0) h'):C wQ [fv,sv] h Q:=by
 refine NK _ _ _ _ ?_
 unfold Qs
 refine ZX hF hI hA rf rs hw.nf hw.ns hw.ents hw.bads hw.texts fun i js l lv dv kvs EL ED h1 hel nd hf s1=>?_
 have hlen:l.length=(kF frags).length:=by rw[← hel];simp
 have hents:=hw.ents
 have hwl:∀ x∈l,WfS x.2.x.2:=fun x hx=>hw.wf _ (by rw[← hel];exact List.mem_map.2 ⟨x,hx,rfl⟩)
 refine aB rfl rfl ?_
 refine ef ?_
 refine Cc 10 ?_
 unfold kB at kb kg
 refine rN ?_
 unfold EQ
 refine aJ (ah (fun _=>?_) (fun h=>by cases h))
 refine Cf (h:=h1) (sz:=1) (n:=4) (cs:=[(.fn (.func cq) [.ptr i 0] []),(.fn (.func co) [.ptr i 0] []),(.fn (.func cf) [.ptr i 0] []),(.fn (.func cp) [.ptr i 0] [])]) (Rd.full rfl) (j:=0) (by decide) fun p t=>?_
 refine aK t ?_
 clear t
 have si:=St.startr s1.src
 refine au (aj (ag si (.head _) rfl ?_))
 refine uI (s1.ad.rd s1.st) ?_
 clear si
 refine bD ?_
 refine ah (fun h0=>?_) (fun h0=>?_)<;>simp only[za,zb,zc,zd,ze,zf,zg,zh,zi,u8i,zj,zk,zl]at h0
 ·have hne:Bv frags≠[]:=by intro h;rw[h]at h0;simp at h0
  unfold jw lX
  rw[if_pos hne]at kb
  exact kb hne _ _ _ _ _ _ _ _ _ _ _ _ s1
 have hn0:Bv frags=[]:=by
  cases hd:Bv frags with
  | nil=>rfl
  | cons a b=>rw[hd]at h0;simp at h0
 rw[hn0]at s1 kb kg
 rw[if_neg (by simp)]at kb kg
 show C cq [.ptr i 0] h1 _
 refine X7 (by omega) rfl s1 nd hf fun dv2 ED2 h2 s2=>?_
 rw[hel]at s2
 refine aI (by decide) (rR (rN ?_))
 refine aJ (ah (fun _=>?_) (fun h=>by cases h))
 refine Cf (h:=h2) (sz:=1) (n:=4) (cs:=[(.fn (.func cq) [.ptr i 0] []),(.fn (.func co) [.ptr i 0] []),(.fn (.func cf) [.ptr i 0] []),(.fn (.func cp) [.ptr i 0] [])]) (Rd.full rfl) (j:=1) (by decide) fun p t=>?_
 refine aK t ?_
 clear t
 have si:=St.startr s2.src
 refine au (aj (ag si (.head _) rfl ?_))
 refine uI (s2.ad.rd s2.st) ?_
 clear si
 refine bD ?_
 refine ah (fun h0=>?_) (fun h0=>?_)<;>simp only[za,zb,zc,zd,ze,zf,zg,zh,zi,u8i,zj,zk,zl]at h0
 ·have hne:A8 (lH syms) (kF frags)≠[]:=by intro h;rw[h]at h0;simp at h0
  unfold jw lX
  rw[if_pos hne]at kb
  exact kb hne _ _ _ _ _ _ _ _ _ _ _ _ s2
 have hn1:A8 (lH syms) (kF frags)=[]:=by
  cases hd:A8 (lH syms) (kF frags) with
  | nil=>rfl
  | cons a b=>rw[hd]at h0;simp at h0
 rw[hn1]at s2 kb kg
 rw[if_neg (by simp)]at kb kg
 show C co [.ptr i 0] h2 _
 refine Xk (f:=lH syms) (by omega) rfl s2 nd hf hwl fun dv3 ED3 h3 s3=>?_
 rw[hel]at s3
 refine aI (by decide) (rR (rN ?_))
 refine aJ (ah (fun _=>?_) (fun h=>by cases h))
 refine Cf (h:=h3) (sz:=1) (n:=4) (cs:=[(.fn (.func cq) [.ptr i 0] []),(.fn (.func co) [.ptr i 0] []),(.fn (.func cf) [.ptr i 0] []),(.fn (.func cp) [.ptr i 0] [])]) (Rd.full rfl) (j:=2) (by decide) fun p t=>?_
 refine aK t ?_
 clear t
 have si:=St.startr s3.src
 refine au (aj (ag si (.head _) rfl ?_))
 refine uI (s3.ad.rd s3.st) ?_
 clear si
 refine bD ?_
 refine ah (fun h0=>?_) (fun h0=>?_)<;>simp only[za,zb,zc,zd,ze,zf,zg,zh,zi,u8i,zj,zk,zl]at h0
 ·have hne:(kF frags).flatMap (szD (lH syms))≠[]:=by intro h;rw[h]at h0;simp at h0
  unfold jw lX
  rw[if_pos hne]at kb
  exact kb hne _ _ _ _ _ _ _ _ _ _ _ _ s3
 have hn2:(kF frags).flatMap (szD (lH syms))=[]:=by
  cases hd:(kF frags).flatMap (szD (lH syms)) with
  | nil=>rfl
  | cons a b=>rw[hd]at h0;simp at h0
 rw[hn2]at s3 kb kg
 rw[if_neg (by simp)]at kb kg
 have hsz:∀ x∈l,SzOk (lH syms) x.2:=fun x hx=>acb (by
  rw[List.flatMap_eq_nil_iff]at hn2
  exact hn2 _ (by rw[← hel];exact List.mem_map.2 ⟨x,hx,rfl⟩))
 show C cf [.ptr i 0] h3 _
 refine Uu hF hL (by omega) nd hf hwl hsz rfl s3 fun l4 jk kv4 dv4 ED4 h4 hm4 he4 hw4 nd4 hf4 s4=>?_
 have hP:my (lH syms) l.length (l.map (·.2))=dq frags syms:=by rw[hel,hlen];rfl
 rw[hP]at he4 hf4 s4
 have hlen4:l4.length=l.length:=by simpa using congrArg List.length hm4
 refine aI (by decide) (rR (rN ?_))
 refine aJ (ah (fun _=>?_) (fun h=>by cases h))
 refine Cf (h:=h4) (sz:=1) (n:=4) (cs:=[(.fn (.func cq) [.ptr i 0] []),(.fn (.func co) [.ptr i 0] []),(.fn (.func cf) [.ptr i 0] []),(.fn (.func cp) [.ptr i 0] [])]) (Rd.full rfl) (j:=3) (by decide) fun p t=>?_
 refine aK t ?_
 clear t
 have si:=St.startr s4.src
 refine au (aj (ag si (.head _) rfl ?_))
 refine uI (s4.ad.rd s4.st) ?_
 clear si
 by_cases hbig:4096<(dq frags syms).2.2
 ·rw[if_pos hbig]at s4 kb ⊢
  refine bD (ah (fun _=>?_) (fun h=>by cases h))
  unfold jw lX
  exact kb (by simp) _ _ _ _ _ _ _ _ _ _ _ _ s4
 rw[if_neg hbig]at s4 kb kg ⊢
 refine bD (ah (fun h=>by cases h) (fun _=>?_))
 show C cp [.ptr i 0] h4 _
 refine Zv hF hL (by omega) s4 rfl (.head _) nd4 hf4 (fun x hx=>(hw4 x hx).1) fun dv5 ED5 h5 s5=>?_
 rw[he4]at s5
 refine aI (by decide) (rR (rN ?_))
 refine aJ (ah (fun h=>by cases h) (fun _=>?_))
 unfold jw lX
 by_cases hch:(dq frags syms).1.flatMap (chD (dq frags syms).2.1 (dq frags syms).1)=[]
 ·rw[hch]at s5
  exact kg hch _ _ _ _ _ _ _ _ _ _ _ _ he4 hw4 nd hf nd4 hf4 s5
 ·exact kb hch _ _ _ _ _ _ _ _ _ _ _ _ s5
end
end
section
section
variable [Tabs]
theorem YY {f:Str→Option Int}{es:List En}{e:En}(h:chD f es e=[]):(bf e.place f e.x.2.args).2=0∧(dP e→e.place.tmod 2=0∧(nj (cy e) (ii e.place (cV (bp (cy e))) (bf e.place f e.x.2.args).1)).isSome=true):=by
 unfold chD at h
 split at h
 ·cases h
 rename_i hw
 simp only[ne_eq,Classical.not_not]at hw
 unfold Hk at hw
 split at hw
 ·cases hw
 rename_i h1
 split at hw
 ·cases hw
 split at hw
 ·rename_i h3;exact (h3 hw).elim
 rename_i h3
 simp only[ne_eq,Classical.not_not]at h3
 refine⟨h3,fun hc=>?_⟩
 split at hw
 ·cases hw
 rename_i h4
 refine⟨?_,?_⟩
 ·by_cases h:e.place.tmod 2=0
  ·exact h
  ·exact (h1 ⟨hc,h⟩).elim
 ·cases hcc:(nj (cy e) (ii e.place (cV (bp (cy e))) (bf e.place f e.x.2.args).1)).isSome with
  | true=>rfl
  | false=>exact (h4 ⟨hc,hcc⟩).elim
theorem Kv {op:Nat}{vs:List Int}:(JB op vs).isSome=(nj op vs).isSome:=by unfold JB;cases nj op vs<;>rfl
theorem WS {op:Nat}{vs bs:List Int}(h:JB op vs=some bs):bs.length=mh op:=by
 unfold JB at h
 cases hc:nj op vs with
 | none=>rw[hc]at h;cases h
 | some b=>
   rw[hc]at h
   simp only[Option.map_some,Option.some.injEq]at h
   subst h
   unfold mh
   split<;>simp[Yi]
theorem UG {f g:Str→Option Int}{es:List En}{e:En}(w:PlE e) (hs:SzOk g e) (h:chD f es e=[]):((po g f e).length:Int)=pt g e:=by
 obtain⟨hz,hc⟩:=YY h
 have hlen:=rJ hz
 unfold po
 split
 ·rename_i hcode
  have:=(hc hcode).2
  rw[← Kv]at this
  cases hen:JB (cy e) (ii e.place (cV (bp (cy e))) (bf e.place f e.x.2.args).1) with
  | none=>rw[hen]at this;cases this
  | some bs=>
    rw[Option.getD_some,WS hen]
    unfold pt cy
    rcases hcode with hk|hk
    ·rw[if_pos hk,if_pos hk]
    ·have hk1:¬ e.x.2.kind=1:=by omega
     have ho:=(w.wf.grow hk).1
     have hsz:∀ n,n<3→mh (rC n)=4∧mh (jZ n)=2:=by decide
     simp only[if_neg hk1,if_pos hk]
     cases e.grown
     ·simp only[Bool.false_eq_true,if_false];rw[(hsz _ ho).2];rfl
     ·simp only[if_true];rw[(hsz _ ho).1];rfl
 ·rename_i hcode
  split
  ·rename_i hd
   have hfl:∀ (n:Nat) (vs:List Int),(vs.flatMap (beB n)).length=vs.length*n:=by
    intro n vs
    induction vs with
    | nil=>simp
    | cons a l ih=>rw[List.flatMap_cons,List.length_append,ih,TA,List.length_cons,Nat.add_mul];omega
   rw[hfl,hlen]
   unfold pt
   unfold dP at hcode
   unfold eV at hd
   rw[if_neg (by omega),if_neg (by omega),if_pos hd]
   push_cast;rfl
  ·rename_i hd
   unfold dP at hcode
   unfold eV at hd
   split
   ·rename_i h6
    unfold pt
    rw[if_neg (by omega),if_neg (by omega),if_neg (by omega),if_pos h6];simp
   ·rw[List.length_replicate]
    have:=(x7 w.wf hs w.lo).1
    omega
def Cz (f:Str→Option Int) (es:List En):Int:=(es.map (pt f)).sum
theorem GZ (f:Str→Option Int):∀ (es:List En) (st:List En×Int),st.2=Cz f st.1→(es.foldl (oe f) st).2=Cz f (es.foldl (oe f) st).1
 | [],_,h=>h
 | e::es,st,h=>by
   rw[List.foldl_cons]
   refine GZ f es _ ?_
   simp only[oe,Cz,List.map_append,List.sum_append,List.map_cons,List.map_nil,List.sum_cons,List.sum_nil]at h ⊢
   omega
theorem J6 (f:Str→Option Int):∀ (n:Nat) (es:List En),∃ es',my f n es=km f es'
 | 0,es=>⟨es,rfl⟩
 | n+1,es=>by
   unfold my
   split
   ·exact J6 f n _
   ·exact⟨es,rfl⟩
theorem V3 (f:Str→Option Int) (n:Nat) (es:List En):(my f n es).2.2=Cz f (my f n es).1:=by
 obtain⟨es',h⟩:=J6 f n es
 rw[h]
 exact GZ f es' ([],0) rfl
theorem Wv {f:Str→Option Int}{es:List En}(h:∀ e∈es,0≤pt f e) (q:Nat):Cz f (es.take q)≤Cz f es:=by
 have hpos:∀ l:List En,(∀ e∈l,0≤pt f e)→0≤Cz f l:=by
  intro l
  induction l with
  | nil=>intro _;simp[Cz]
  | cons a l ih=>
    intro hl
    have:=ih fun e he=>hl e (.tail _ he)
    have:=hl a (.head _)
    simp only[Cz,List.map_cons,List.sum_cons]at *;omega
 conv=>rhs;rw[← List.take_append_drop q es]
 have:=hpos (es.drop q) fun e he=>h e (List.mem_of_mem_drop he)
 simp only[Cz,List.map_append,List.sum_append]at *;omega
theorem Pe {f g:Str→Option Int}{es0:List En}:∀ (es:List En),(∀ e∈es,PlE e∧SzOk g e∧chD f es0 e=[])→((es.flatMap (po g f)).length:Int)=Cz g es
 | [],_=>by simp[Cz]
 | e::es,h=>by
   have ih:=Pe es fun x hx=>h x (.tail _ hx)
   obtain⟨h1,h2,h3⟩:=h e (.head _)
   have:=UG h1 h2 h3
   simp only[List.flatMap_cons,List.length_append,Cz,List.map_cons,List.sum_cons]at *
   omega
variable {h0 h h':ae}{M:List Nat}{Q:QT}{K:AV→Prop}{KS:ae→Prop}
theorem VB {frags:List Fg}{syms:List Sy}(h:kB frags syms=[]):(dq frags syms).2.2≤4096∧∀ e∈(dq frags syms).1,chD (dq frags syms).2.1 (dq frags syms).1 e=[]:=by
 unfold kB at h
 split at h
 ·rename_i h1;exact (h1 h).elim
 split at h
 ·rename_i h1;exact (h1 h).elim
 split at h
 ·rename_i h1;exact (h1 h).elim
 split at h
 ·cases h
 rename_i h4
 rw[List.flatMap_eq_nil_iff]at h
 exact⟨by omega,h⟩
theorem Uw (frags:List Fg) (syms:List Sy) (hw:Few frags syms):(kB frags syms).length<2000000:=by
 have h1:=hw.bads
 have h2:=hw.ents
 have htw:∀ (es:List En) (st:TwS) (b:Nat),TwB st b→TwB (es.foldl twE st) (b+2*es.length):=by
  intro es
  induction es with
  | nil=>intro st b h;simpa using h
  | cons e es ih=>
    intro st b h
    rw[List.foldl_cons,List.length_cons]
    have hn:∀ (nm:List Str) (st:TwS) (b:Nat),TwB st b→TwB (nm.foldl (twN e) st) (b+nm.length):=by
     intro nm
     induction nm with
     | nil=>intro st b h;simpa using h
     | cons n nm ih2=>
       intro st b h
       rw[List.foldl_cons,List.length_cons]
       have:=ih2 _ _ (h.step e n)
       exact⟨by have:=this.1;omega,fun k=>by have:=this.2 k;omega⟩
    have hl:(pR e).length≤2:=by unfold pR;split<;>simp
    have h3:=hn (pR e) st b h
    have h4:=ih (twE st e) (b+2) ⟨by have:=h3.1;unfold twE;omega,fun k=>by have:=h3.2 k;unfold twE;omega⟩
    exact⟨by have:=h4.1;omega,fun k=>by have:=h4.2 k;omega⟩
 have h5:=htw (kF frags) (tw0 (lH syms)) 0 ⟨by simp[tw0],fun k=>by simp[tw0];cases lH syms k<;>simp⟩
 have h6:=tJ (Ud (lH syms)) (kF frags)
 have h7:=tJ (Te (dq frags syms).2.1 (dq frags syms).1) (dq frags syms).1
 have h8:(dq frags syms).1.length=(kF frags).length:=by
  unfold dq
  have:∀ (f:Str→Option Int) (n:Nat) (es:List En),(my f n es).1.length=es.length:=by
   intro f n
   induction n with
   | zero=>intro es;exact q0 f es
   | succ n ih=>
     intro es
     unfold my
     split
     ·rw[ih,List.length_map,q0]
     ·exact q0 f es
  exact this _ _ _
 unfold kB
 split
 ·omega
 split
 ·have:=h5.1;unfold A8;omega
 split
 ·omega
 split
 ·simp
 ·omega
theorem Qq (hF:cB) (hI:gH) (hA:ju) (hL:dz) {frags:List Fg}{syms:List Sy}{fv sv:AV}(rf:Row frE 2 h fv frags) (rs:Row syE 2 h sv syms) (hw:Few frags syms)
  (kb:kB frags syms≠[]→∀ h',Fr [] h h'→Q (.tup [.full 0 [],.snap (kB frags syms).length ((kB frags syms).flatMap dE)]) h')
  (kg:kB frags syms=[]→∀ h',Fr [] h h'→Q (.tup [.snap (vI frags syms).length ((vI frags syms).flatMap bE),.full 0 []]) h'):C pc [fv,sv] h Q:=by
 refine Fq _ _ _ _ ?_
 unfold Bs
 refine aaR hF hI hA hL rf rs hw (fun hne i js l lv dv kn sz kvs EL ED R h1 s1=>?_) (fun hnil i js l lv dv jk kvk kvs EL ED R h1 hel hwl nds hfs ndk hfk s1=>?_)
 ·have si:=St.startr s1.src
  refine au (aj (ag si (.head _) rfl ?_))
  have rd:=s1.ad.rd s1.st
  refine uI rd ?_
  refine bD ?_
  have hlen:0<(kB frags syms).length:=List.length_pos_iff.2 hne
  refine ah (fun _=>?_) (fun h=>by simp at h;exact (hne h).elim)
  refine au (aj (ag si (.head _) rfl ?_))
  have:=Uw frags syms hw
  refine B1 (by omega) rd fun h2 f2=>?_
  exact kb hne h2 (s1.call f2).st.fr
 ·have si:=St.startr s1.src
  refine au (aj (ag si (.head _) rfl ?_))
  refine uI (s1.ad.rd s1.st) ?_
  refine bD ?_
  refine ah (fun h=>by simp at h) (fun _=>?_)
  refine au (aj (ag si (.head _) rfl ?_))
  clear si
  refine s1.row.len ?_
  obtain⟨hsz,hch⟩:=VB hnil
  have hent:∀ e∈(dq frags syms).1,PlE e∧SzOk (lH syms) e∧chD (dq frags syms).2.1 (dq frags syms).1 e=[]:=by
   intro e he
   have he2:=he
   rw[← hel,List.mem_map]at he2
   obtain⟨x,hx,rfl⟩:=he2
   exact⟨(hwl x hx).1,(hwl x hx).2,hch _ he⟩
  have hsum:(dq frags syms).2.2=Cz (lH syms) (dq frags syms).1:=V3 _ _ _
  have hlong:∀ e∈(dq frags syms).1,0≤pt (lH syms) e:=fun e he=>(x7 (hent e he).1.wf (hent e he).2.1 (hent e he).1.lo).1
  have hll:l.length=(kF frags).length:=by
   have h1:=congrArg List.length hel
   have h8:∀ (f:Str→Option Int) (n:Nat) (es:List En),(my f n es).1.length=es.length:=by
    intro f n
    induction n with
    | zero=>intro es;exact q0 f es
    | succ n ih=>
      intro es
      unfold my
      split
      ·rw[ih,List.length_map,q0]
      ·exact q0 f es
   rw[List.length_map]at h1
   rw[h1];exact h8 _ _ _
  have hents:=hw.ents
  have hpre:∀ q,(((l.take q).map (·.2)).flatMap (po (lH syms) (dq frags syms).2.1)).length≤4096:=by
   intro q
   rw[List.map_take,hel]
   have h1:=Pe (f:=(dq frags syms).2.1) (g:=lH syms) (es0:=(dq frags syms).1) ((dq frags syms).1.take q) fun e he=>hent e (List.mem_of_mem_take he)
   have h2:=Wv hlong q
   omega
  refine aQ (fun n vs h'=>∃ (q:Nat) (v:AV) (E:Own),vs=[v,I (q:Nat)]∧n+q=l.length∧AccE 1 v (((l.take q).map (·.2)).flatMap (po (lH syms) (dq frags syms).2.1)).length ((((l.take q).map (·.2)).flatMap (po (lH syms) (dq frags syms).2.1)).flatMap bE) E∧SS h [] h' i js l [] lv dv (.map jk) (dq frags syms).2.2 kvs EL ED (E++((jk,true,bF kvk)::R))) l.length ⟨0,.full 0 [],[],rfl,by omega,.none 1,s1⟩ ?_
  rintro n vs h2 ⟨q,v,E,rfl,hn,a,s2⟩
  unfold vZ
  (repeat refine aJ ?_)
  refine ah (fun hq=>?_) (fun hq=>?_)<;>simp only[za,zb,zc,zd,ze,zf,zg,zh,zi,u8i,zj,zk,zl]at hq
  ·have hq:q<l.length:=hq
   have hm:=List.getElem_mem hq
   refine s2.row.idx (fun _=>rfl) hq fun p t=>?_
   refine aK t ?_
   have hme:l[q].2∈(dq frags syms).1:=by rw[← hel];exact List.mem_map.2 ⟨_,hm,rfl⟩
   have hsucc:=yh (po (lH syms) (dq frags syms).2.1) hq
   have hq1:=hpre (q+1)
   rw[hsucc,List.length_append]at hq1
   have hw0:=YY (hent _ hme).2.2
   refine Xu hF hL (s2.ent _ hm) (hwl _ hm).1 s2.src ⟨kvk,s2.rget (List.mem_append_right _ (.head _)),ndk,hfk⟩ ⟨kvs,s2.syms,nds,hfs⟩ (hwl _ hm).2 (fun hc=>⟨hw0.1,by rw[Kv];exact (hw0.2 hc).2⟩) fun u h3 f3 ru=>?_
   have s3:=s2.call f3
   refine a.app s3.backL (m:=(po (lH syms) (dq frags syms).2.1 l[q].2).length) (xs:=(po (lH syms) (dq frags syms).2.1 l[q].2).flatMap bE) ru (by
    have:∀ l:List Int,(l.flatMap bE).all AV.one=true:=fun l=>by
     induction l with
     | nil=>rfl
     | cons a l ih=>rw[List.flatMap_cons,List.all_append,ih];rfl
    exact this _) (by omega) fun v4 E4 h4 a4 s4=>?_
   refine aI (by omega) ?_
   refine⟨n-1,by omega,q+1,v4,E4,rfl,by omega,?_,SS.frontL s4 s3.unL⟩
   rw[hsucc,List.length_append,List.flatMap_append];exact a4
  ·have hq:q=l.length:=by omega
   subst hq
   have h1:=hpre l.length
   rw[List.take_length]at a h1
   refine ta (by omega) (a.rd s2.backL) fun h3 f3=>?_
   rw[hel]
   exact kg hnil h3 (s2.call f3).st.fr
end
end
section
section
variable [Tabs]
variable {h0 h h':ae}{M:List Nat}{Q:QT}{K:AV→Prop}{KS:ae→Prop}
end
end
section
abbrev W3:Ig:=fun _ _ _ _ _=>none
section
theorem RN [Tabs]:(kindsL.all fun p=>L8 Pg tb5 W3 100 ez [T p.1] .leaf 0 fun r t _=>Nw (.snap p.2.length (p.2.flatMap fun x=>[T x])) r t)=true:=by kernel_rfl
theorem Wa [Tabs]:([8,15,19,24].all fun b:Nat=>L8 Pg tb5 W3 100 sR [.lit (.float .f64 4607182418800017408),I (b:Nat)] .leaf 0 fun r t _=>Nw (.lit (.float .f64 (FloatKind.f64.nearest (2^b:Nat)))) r t)=true:=by kernel_rfl
def digs:List UInt8:=[48,49,50,51,52,53,54,55,56,57]
def twoDigs:List Str:=(digs.map fun a=>[a])++digs.flatMap fun a=>digs.map fun b=>[a,b]
theorem YG [Tabs]:(twoDigs.all fun s=>L8 Pg tb5 W3 100 eI [T s] .leaf 0 fun r t _=>Nw (.tup [I (s.foldl (fun n c=>n*10+(c.toNat-48)) 0:Nat),.lit .nilIface]) r t)=true:=by kernel_rfl
theorem GS {c:UInt8}(h:sP c=true):c∈digs:=by
 unfold sP bu at h
 simp only[Bool.and_eq_true,decide_eq_true_eq]at h
 have:∀ n,48≤n→n≤57→UInt8.ofNat n∈digs:=by
  intro n h1 h2
  have:n=48∨n=49∨n=50∨n=51∨n=52∨n=53∨n=54∨n=55∨n=56∨n=57:=by omega
  rcases this with h|h|h|h|h|h|h|h|h|h<;>subst h<;>decide
 have h3:=this c.toNat h.1 h.2
 rwa [UInt8.ofNat_toNat]at h3
theorem abj {s:Str}(h1:1≤s.length) (h2:s.length≤2) (h:s.all sP=true):s∈twoDigs:=by
 match s with
 | []=>simp at h1
 | [a]=>
   simp only[List.all_cons,List.all_nil,Bool.and_true]at h
   exact List.mem_append_left _ (List.mem_map.2 ⟨a,GS h,rfl⟩)
 | [a,b]=>
   simp only[List.all_cons,List.all_nil,Bool.and_true,Bool.and_eq_true]at h
   exact List.mem_append_right _ (List.mem_flatMap.2 ⟨a,GS h.1,List.mem_map.2 ⟨b,GS h.2,rfl⟩⟩)
 | a::b::c::r=>simp at h2
variable [Tabs5]
theorem Zr:cB:=fun p hp h Q q=>lZ Tabs5.tb ut (d:=100) (.snap p.2.length (p.2.flatMap fun x=>[T x])) rfl (by
 have:∀ l:List Str,clL (l.flatMap fun x=>[T x])=true:=fun l=>by
  induction l with
  | nil=>rfl
  | cons a l ih=>show (cl (T a)&&clL (l.flatMap fun x=>[T x]))=true;rw[ih];rfl
 exact this _) (List.all_eq_true.1 RN p hp) q
theorem aah:dz:=fun b hb h Q q=>lZ Tabs5.tb ut (d:=100) (.lit (.float .f64 (FloatKind.f64.nearest (2^b:Nat)))) rfl rfl (List.all_eq_true.1 Wa b hb) q
theorem ab9:ju:=fun s h1 h2 h3 h Q q=>lZ Tabs5.tb ut (d:=100) _ rfl rfl (List.all_eq_true.1 YG s (abj h1 h2 h3)) q
theorem abm:gH:=fun s sub h Q hs q=>by
 have hI:=TF
 refine⟨hI.1,fun G w vs si r=>?_⟩
 obtain⟨x,y,hx,ha,hb⟩:=r.two
 simp only[Rep]at ha hb
 obtain⟨rfl,_⟩:=ha
 obtain⟨rfl,_⟩:=hb
 obtain⟨m,hm⟩:=Tabs5.m0 _ si.tab
 subst hx
 refine (hI.2 ⟨⟨s⟩⟩ ⟨⟨sub⟩⟩ m w hs (si.frz _ _ _ hm)).mono fun e w' ⟨he,hw⟩=>?_
 subst hw
 exact⟨I (Lib.index s sub),_,h,G,he,by simp[Rep,Value.oneCell'],q,si,Evo.refl _ _ _⟩
end
end
section
section
variable [Tabs]
variable {h0 h:ae}{M:List Nat}{L R:Own}{K:AV→Prop}{Q:QT}{i:Nat}{w:WkM}
theorem yc {c:Int}{n:Str}{t:Str}{v:Int}(hc:1≤c∧c≤6) (hn:eH n=true) (ht:t.length≤600) (hw:t=[]∨mI c=true) (hv:v=0∨(c=5∧-1099511627776≤v∧v≤1099511627776)):ml ⟨c,n,t,v⟩=true:=by
 unfold ml
 rw[if_neg (by simp;omega),if_neg (by simp;omega)]
 simp only[Bool.and_eq_true,Bool.or_eq_true,decide_eq_true_eq]
 refine⟨hn,ht,hw,?_,?_⟩
 ·rcases hv with rfl|h<;>omega
 ·rcases hv with rfl|h
  ·exact .inl rfl
  ·exact .inr h.1
end
end
section
variable [Tabs]
def Gd (f:PF):Prop:=∀ l x l',f l=some (x,l')→okE x∧bo x+l'.length≤l.length
theorem Kg:∀ (ks:List Nat) (l:Str),(dC ks l).1=0∨(dC ks l).1∈ks
 | [],l=>.inl rfl
 | k::ks,l=>by
   unfold dC
   split
   ·exact .inr (.head _)
   ·rcases Kg ks (blk l) with h|h
    ·exact .inl h
    ·exact .inr (.tail _ h)
theorem PW {sub:PF}(hs:Gd sub) (ks:List Nat) (hk:∀ k∈ks,(sg k)≠[]) (hb:∀ k∈ks,5≤k∧k≤11):∀ n x l y l',eZ sub ks n x l=some (y,l')→okE x→okE y∧bo y+l'.length≤bo x+l.length
 | 0,x,l,y,l',e,hx=>by
   have:=(qz ks hk l).1
   unfold eZ at e
   split at e
   ·cases e;exact⟨hx,by omega⟩
   ·cases e
 | n+1,x,l,y,l',e,hx=>by
   have h0:=qz ks hk l
   unfold eZ at e
   split at e
   ·cases e;exact⟨hx,by omega⟩
   ·rename_i hne
    split at e
    ·cases e
    ·rename_i z l2 h2
     obtain⟨h3,h4⟩:=hs _ _ _ h2
     have hm:=(Kg ks l).resolve_left hne
     have:=PW hs ks hk hb n _ _ _ _ e ⟨hb _ hm,hx,h3⟩
     have h5:=h0.2 hne
     simp only[bo]at this
     exact⟨this.1,by omega⟩
theorem WU:∀ ks∈levelsL,∀ k∈ks,5≤k∧k≤11:=by decide
theorem L9 {one:PF}(ho:Gd one):∀ r,r≤5→Gd (hQ one r)
 | 0,_=>ho
 | r+1,hr=>fun l x l' e=>by
   unfold hQ at e
   have ih:=L9 ho r (by omega)
   cases h:hQ one r l with
   | none=>rw[h]at e;cases e
   | some p=>
     obtain⟨y,l1⟩:=p
     rw[h]at e
     obtain⟨h1,h2⟩:=ih _ _ _ h
     have hl:=KW (r:=4-r) (by omega)
     have:=PW ih _ (yO _ hl).1 (WU _ hl) _ _ _ _ _ e h1
     exact⟨this.1,by omega⟩
theorem WD {two:PF}(h2:Gd two):Gd (gU two):=fun l x l' e=>by
 unfold gU at e
 cases h:two l with
 | none=>rw[h]at e;cases e
 | some p=>
   obtain⟨y,l1⟩:=p
   rw[h]at e
   obtain⟨h1,h3⟩:=h2 _ _ _ h
   have hb:(blk l1).length≤l1.length:=nN 32 l1
   simp only at e
   split at e
   ·cases e;exact⟨h1,by simp;omega⟩
   ·cases e
theorem EA (base:Nat) (l ds:Str) (hd:ds≠[]) (hl:ds.length≤l.length) {x:Ex}{l':Str}(e:fl base l ds=some (x,l')):okE x∧bo x+l'.length≤l.length:=by
 have:0<ds.length:=List.length_pos_iff.2 hd
 unfold fl at e
 split at e
 ·cases e
 ·split at e
  ·cases e;exact⟨trivial,by simp[bo];omega⟩
  ·cases e
theorem Ds {p:UInt8→Bool}:∀ l:Str,(l.takeWhile p).length≤l.length:=fun l=>(List.takeWhile_prefix p).length_le
theorem TN:Gd GO:=fun l x l' e=>by
 unfold GO at e
 split at e
 ·rename_i h
  exact EA _ _ _ h (Ds _) e
 ·split at e
  ·rename_i h
   cases e
   have hn:gv l≠[]:=fun h0=>by rw[h0]at h;cases h
   have h1:=List.length_pos_iff.2 hn
   have h2:(gv l).length≤l.length:=Ds _
   exact⟨trivial,by simp[bo];omega⟩
  ·cases e
theorem Y7:Gd Cb:=fun l x l' e=>by
 unfold Cb at e
 split at e
 ·split at e
  ·rename_i h
   have:=EA _ _ _ h (Ds _) e
   simp at this;exact⟨this.1,by omega⟩
  ·exact TN _ _ _ e
 ·exact TN _ _ _ e
theorem Ts {c:UInt8}{l:Str}(h:([c]:Str).isPrefixOf l=true):0<l.length:=by
 cases l<;>simp_all [List.isPrefixOf]
theorem OG {group minus:PF}(hg:Gd group) (hm:∀ l x l',minus l=some (x,l')→okE x∧bo x+l'.length≤l.length+1):Gd (sq group minus):=fun l x l' e=>by
 have hb:(blk l).length≤l.length:=nN 32 l
 unfold sq at e
 split at e
 ·have:=hg _ _ _ e;simp at this;exact⟨this.1,by omega⟩
 ·split at e
  ·rename_i h
   have h1:=Ts h
   have:=hm _ _ _ e;simp at this;exact⟨this.1,by omega⟩
  ·split at e
   ·rename_i h
    have h1:=Ts h
    cases e;exact⟨trivial,by simp[bo];omega⟩
   ·have:=Y7 _ _ _ e;exact⟨this.1,by omega⟩
theorem VR {one:PF}(h2:Gd one):∀ l x l',eS one l=some (x,l')→okE x∧bo x+l'.length≤l.length+1:=fun l x l' e=>by
 unfold eS at e
 cases h:one l with
 | none=>rw[h]at e;cases e
 | some p=>
   obtain⟨y,l1⟩:=p
   rw[h]at e
   cases e
   obtain⟨h3,h4⟩:=h2 _ _ _ h
   exact⟨h3,by simp[bo];omega⟩
theorem Ml:∀ d,Gd (CD d)
 | 0=>OG (fun l x l' e=>by cases e) (fun l x l' e=>by cases e)
 | d+1=>OG (WD (L9 (Ml d) 5 (Nat.le_refl _))) (VR (Ml d))
theorem Vg {s:Str}{x:Ex}(h:hO s=some x):okE x∧bo x≤s.length:=by
 unfold hO at h
 split at h
 ·cases h
 ·rename_i y l' e
  split at h
  ·cases h
   have:=L9 (Ml 12) 5 (Nat.le_refl _) _ _ _ e
   exact⟨this.1,by omega⟩
  ·cases h
theorem abo {s:Str}(h:(y3 s).2=true):(y3 s).1<32:=by
 unfold y3 at h ⊢
 split at h
 ·split at h
  ·rename_i hc
   rw[if_pos hc]
   exact of_decide_eq_true h
  ·cases h
 ·cases h
abbrev okB (N:Nat) (a:Ar):Prop:=okE a.e∧bo a.e≤N+1∧a.reg<1000
def CB:Way→Bool
 | .word=>true
 | _=>false
theorem YK (N:Nat):∀ (ws:List Way) (l:List Str) (rs rs':RS),goW ws l rs=(rs',true)→l.length=ws.length→(∀ s∈l,s.length≤N)→(∀ a∈rs.args,okB N a)→rs.text.length≤N→
  rs'.kind=rs.kind∧rs'.op=rs.op∧rs'.args.length=rs.args.length+(ws.filter fun w=>!CB w).length∧(∀ a∈rs'.args,okB N a)∧rs'.text.length≤N
 | [],l,rs,rs',h,hl,hs,ha,ht=>by
   simp only[goW,Prod.mk.injEq,and_true]at h
   subst h;exact⟨rfl,rfl,by simp,ha,ht⟩
 | w::ws,[],rs,rs',h,hl,hs,ha,ht=>by simp at hl
 | w::ws,s::ss,rs,rs',h,hl,hs,ha,ht=>by
   unfold goW at h
   split at h
   ·rename_i hw
    have hsl:=hs s (.head _)
    have step:(kD w s rs).1.kind=rs.kind∧(kD w s rs).1.op=rs.op∧(kD w s rs).1.args.length=rs.args.length+(if CB w then 0 else 1)∧(∀ a∈(kD w s rs).1.args,okB N a)∧(kD w s rs).1.text.length≤N:=by
     cases w with
     | value=>
       simp only[kD]at hw ⊢
       cases hp:hO s with
       | none=>rw[hp]at hw;cases hw
       | some x=>
         have:=Vg hp
         refine⟨rfl,rfl,by simp[CB],fun a h=>?_,ht⟩
         rcases List.mem_append.1 h with h|h
         ·exact ha a h
         ·simp at h;subst h;exact⟨this.1,by show bo x≤_;omega,by show (-1:Int)<1000;omega⟩
     | reg=>
       simp only[kD]at hw ⊢
       have:=abo hw
       refine⟨by trivial,by trivial,by simp[CB],fun a h=>?_,ht⟩
       rcases List.mem_append.1 h with h|h
       ·exact ha a h
       ·simp at h;subst h;exact⟨trivial,by simp[bo],by show (((y3 s).1:Nat):Int)<1000;omega⟩
     | word=>
       simp only[kD]at hw ⊢
       exact⟨by trivial,by trivial,by simp[CB],ha,hsl⟩
    obtain⟨h1,h2,h3,h4,h5⟩:=step
    obtain⟨g1,g2,g3,g4,g5⟩:=YK N ws ss _ rs' h (by simpa using hl) (fun x hx=>hs x (.tail _ hx)) h4 h5
    refine⟨g1.trans h1,g2.trans h2,?_,g4,g5⟩
    rw[g3,h3]
    cases w<;>simp[CB]<;>omega
   ·cases h
theorem aa0 {N:Nat}{ws:List Way}{l:List Str}{rs:RS}(h:(pa l ws rs).2=true) (hs:∀ s∈l,s.length≤N) (ha:rs.args=[]) (ht:rs.text.length≤N):
  (pa l ws rs).1.kind=rs.kind∧(pa l ws rs).1.op=rs.op∧(pa l ws rs).1.args.length=(ws.filter fun w=>!CB w).length∧(∀ a∈(pa l ws rs).1.args,okB N a)∧(pa l ws rs).1.text.length≤N:=by
 unfold pa at h ⊢
 split at h
 ·rename_i hl
  rw[if_pos hl]
  have:=YK N ws l rs (goW ws l rs).1 (by rw[← h]) hl hs (by rw[ha];simp) ht
  rw[ha]at this
  simpa using this
 ·cases h
theorem O2 (s:Str):∀ x∈bZ s,x.length≤s.length:=fun x hx=>by
 unfold bZ at hx
 split at hx
 ·cases hx
 ·rw[List.mem_map]at hx
  obtain⟨y,hy,rfl⟩:=hx
  have h3:=jD 44 s y hy
  have h4:=qK y
  omega
theorem UL (l:List Str):((l.map lP).filter fun w=>!CB w).length=l.length:=by
 rw[List.filter_eq_self.2]
 ·simp
 ·intro w hw
  obtain⟨k,_,rfl⟩:=List.mem_map.1 hw
  unfold lP;split<;>rfl
theorem Ug (n:Nat):((List.replicate n Way.value).filter fun w=>!CB w).length=n:=by
 rw[List.filter_eq_self.2]
 ·simp
 ·intro w hw
  rw[(List.mem_replicate.1 hw).2];rfl
theorem VO:∀ n,n<3→(cV (bp (jZ n))).length≤1+n / 2*2∧(cV (bp (rC n))).length≤1+n / 2*2:=by decide
theorem Xg {N:Nat}(hN:N≤100000) {name rest:Str}{lab:Str}(hr:rest.length≤N) (h:(xb name rest (rs0 lab)).2=true):WfS (xb name rest (rs0 lab)).1:=by
 have hop:∀ s∈bZ rest,s.length≤N:=fun s hs=>Nat.le_trans (O2 rest s hs) hr
 have fin:∀ {ws:List Way} {rs:RS},(pa (bZ rest) ws rs).2=true→rs.args=[]→rs.text=[]→ws.length≤1000→
   (rs.kind=1→rs.op<tbl.length∧(cV (bp rs.op)).length≤(ws.filter fun w=>!CB w).length)→
   (rs.kind=2→rs.op<3∧(cV (bp (jZ rs.op))).length≤(ws.filter fun w=>!CB w).length∧(cV (bp (rC rs.op))).length≤(ws.filter fun w=>!CB w).length)→
   (3≤rs.kind→rs.kind≠6→0<(ws.filter fun w=>!CB w).length)→rs.kind≤9→WfS (pa (bZ rest) ws rs).1:=fun {ws rs} h ha ht hw h1 h2 h3 h9=>by
  obtain⟨g1,g2,g3,g4,g5⟩:=aa0 h hop ha (by rw[ht];simp)
  have hf:(ws.filter fun w=>!CB w).length≤ws.length:=List.length_filter_le _ _
  refine⟨fun k=>?_,fun k=>?_,fun k k6=>?_,by rw[g1];exact h9,by omega,by omega,fun a hx=>?_⟩
  ·rw[g2,g3];exact h1 (g1 ▸ k)
  ·rw[g2,g3];exact h2 (g1 ▸ k)
  ·have:=h3 (by omega) (by omega)
   intro h0
   rw[h0]at g3;simp at g3;omega
  ·obtain⟨b1,b2,b3⟩:=g4 a hx
   exact⟨b1,by omega,b3⟩
 unfold xb at h ⊢
 split
 ·rename_i op hf
  rw[hf]at h
  have hl:=CO hf
  have hk:(cV (bp op)).length≤10:=by
   have:∀ r∈tbl,(cV r.kinds).length≤10:=by decide
   have h2:=this _ (List.getElem_mem hl)
   rw[show bp op=tbl[op].kinds by simp[bp,hl]];exact h2
  exact fin h rfl rfl (by simp;omega) (fun _=>⟨hl,by rw[UL];exact Nat.le_refl _⟩) (fun k=>by cases k) (fun k _=>absurd k (by show ¬ 3≤1;decide)) (by show 1≤9;decide)
 ·rename_i hf
  rw[hf]at h
  simp only at h
  split
  ·rename_i hg
   rw[if_pos hg]at h
   have h3:(kX name growsL).toNat<3:=(u7 name growsL).2.2 hg
   refine fin h rfl rfl (by simp;omega) (fun k=>by cases k) (fun _=>⟨h3,?_⟩) (fun k _=>absurd k (by show ¬ 3≤2;decide)) (by show 2≤9;decide)
   rw[Ug];exact VO _ h3
  ·rename_i hg
   rw[if_neg hg]at h
   split
   ·rename_i hd
    rw[if_pos hd]at h
    have h3:(kX name datasL).toNat<3:=(u7 name datasL).2.2 hd
    split
    ·rename_i hc
     rw[if_pos hc]at h
     refine fin h rfl rfl (by simp;omega) (fun k=>by have k:3+(kX name datasL).toNat=1:=k;omega) (fun k=>by have k:3+(kX name datasL).toNat=2:=k;omega) (fun _ _=>by rw[Ug];omega) (by show 3+(kX name datasL).toNat≤9;omega)
    ·rename_i hc
     rw[if_neg hc]at h;cases h
   ·rename_i hd
    rw[if_neg hd]at h
    split
    ·rename_i ha
     rw[if_pos ha]at h
     unfold AH at h ⊢
     split at h
     ·cases h
     ·rename_i hq
      rw[if_neg hq]
      exact⟨(fun k=>by cases k),(fun k=>by cases k),fun _ k=>absurd rfl k,(by show 6≤9;decide),(by show ([]:List Ar).length<_;decide),(by simp;omega),(fun a ha=>by cases ha)⟩
    ·rename_i ha
     rw[if_neg ha]at h
     split
     ·rename_i hp
      rw[if_pos hp]at h
      have h3:(kX name spacesL).toNat<2:=(u7 name spacesL).2.2 hp
      exact fin h rfl rfl (by simp) (fun k=>by have k:7+(kX name spacesL).toNat=1:=k;omega) (fun k=>by have k:7+(kX name spacesL).toNat=2:=k;omega) (fun _ _=>by decide) (by show 7+(kX name spacesL).toNat≤9;omega)
     ·rename_i hp
      rw[if_neg hp]at h
      split
      ·rename_i hq
       rw[if_pos hq]at h
       exact fin h rfl rfl (by simp) (fun k=>by cases k) (fun k=>by cases k) (fun _ _=>by decide) (by show 9≤9;decide)
      ·rename_i hq
       rw[if_neg hq]at h;cases h
theorem aau {s:Str}(hs:s.length≤100000) {rs:RS}(h:Pd s=some (some rs)):WfS rs:=by
 unfold Pd at h
 split at h
 ·cases h
 ·split at h
  ·cases h
  ·rename_i lab s' hl
   have hl':s'.length≤s.length:=by
    have hb:=PG s
    unfold VN at hl
    split at hl
    ·split at hl
     ·cases hl
      have:=qK ((zZ s).drop (da fL (zZ s)+1))
      simp at this;omega
     ·cases hl
    ·cases hl;exact hb
   split at h
   ·split at h
    ·cases h
    ·cases h
     exact⟨fun k=>(by cases k),fun k=>(by cases k),fun k=>absurd k (by show ¬ 3≤0;decide),(by show 0≤9;decide),(by show 0<1000000000;decide),(by show 0<1000000000;decide),(fun a ha=>by cases ha)⟩
   ·split at h
    ·rename_i ht
     cases h
     refine Xg (N:=100000) (by decide) ?_ ht
     have:=qK (s'.drop (da AY s'))
     unfold Ip
     simp at this;omega
    ·cases h
theorem UB {s:Str}(hs:s.length≤100000):∀ x∈ra s,WfS x.2:=fun x hx=>by
 unfold ra DI at hx
 obtain⟨n,hn,h⟩:=List.mem_flatMap.1 hx
 have hn:n<(bM 10 s).length:=by simpa using hn
 have e:((bM 10 s)[n]?).getD []=(bM 10 s)[n]:=by simp[hn]
 rw[e]at h
 have hl:=jD 10 s _ (List.getElem_mem hn)
 unfold stm at h
 split at h
 ·rename_i rs ho
  simp at h;subst h
  exact aau (by omega) ho
 ·cases h
theorem abT {frags:List Fg}{syms:List Sy}(hf:frags.length≤100) (hs:syms.length≤1000) (ht:∀ x∈frags,x.2.length≤900):Few frags syms:=by
 have hlen:∀ (g:Fg→Nat) (l:List Fg),(∀ x∈l,g x≤901)→(l.map g).sum≤l.length*901:=fun g l h=>by
  induction l with
  | nil=>simp
  | cons a l ih=>
    have:=h a (.head _)
    have:=ih fun x hx=>h x (.tail _ hx)
    simp[Nat.add_mul];omega
 have hp:∀ x∈frags,(bM 10 x.2).length≤901:=fun x hx=>by
  have h1:=jH 10 x.2
  have h2:=List.count_le_length (a:=(10:UInt8)) (l:=x.2)
  have:=ht x hx
  omega
 have hm:frags.length*901≤100*901:=Nat.mul_le_mul_right _ hf
 refine⟨by omega,by omega,?_,?_,fun x hx=>by have:=ht x hx;omega,fun e he=>?_⟩
 ·unfold kF
  rw[List.length_flatMap]
  have:=hlen (fun x=>(wO x).length) frags fun x hx=>by
   unfold wO
   rw[List.length_map]
   exact Nat.le_trans (xF stm TK _ _) (hp x hx)
  omega
 ·unfold Bv
  rw[List.length_flatMap]
  have:=hlen (fun x=>(zK x).length) frags fun x hx=>by
   unfold zK
   rw[List.length_map]
   exact Nat.le_trans (xF Hr OO _ _) (hp x hx)
  omega
 ·obtain⟨x,hx,he⟩:=List.mem_flatMap.1 he
  obtain⟨y,hy,rfl⟩:=List.mem_map.1 he
  exact UB (by have:=ht x hx;omega) y hy
end
section
theorem HX {s:Str}(h:eH s=true):s.length≤12:=by
 unfold eH at h
 split at h
 ·cases h
 ·simp only[Bool.and_eq_true,decide_eq_true_eq]at h;exact h.1
section
variable [Tabs]
variable {h0 h:ae}{M:List Nat}{L R R':Own}{K:AV→Prop}{KH:QT}{KS':ae→Prop}{Q:QT}{i:Nat}{w:WkM}
def yf (w:WkM):List AV:=if kB w.f w.s=[] then [I 0,T [],.snap (vI w.f w.s).length ((vI w.f w.s).flatMap bE),.full 0 []] else [I 14,T [],.full 0 [],.snap (kB w.f w.s).length ((kB w.f w.s).flatMap dE)]
theorem Q8 (hF:cB) (hI:gH) (hA:ju) (hL:dz) (hks:Md) {r:Rq}(ok:WkOk w) (s:WkS h0 M h i w R) (k:∀ h',WkS h0 M h' i w R→Q (.agg (yf w)) h'):C ij [.ptr i 0,rqE r] h Q:=by
 refine AZ _ _ _ _ ?_
 unfold vX
 obtain⟨jf,js,xf,xs,mf,ms,s⟩:=s
 refine bB s rfl fun p h1 s1=>?_
 refine aM s1 fun q h2 s2=>?_
 have s2:WkS h0 M h2 i w ((q,true,.cells [I 0,S ⟨#[]⟩,.full 0 [],.full 0 []])::(p,true,.cells (rqE r).cells)::R):=⟨jf,js,xf,xs,mf,ms,s2.perm (by
   refine (List.perm_append_comm (l₁:=[(q,true,AObj.cells [I 0,S ⟨#[]⟩,.full 0 [],.full 0 []]),(p,true,.cells (AV.cells (rqE r)))]) (l₂:=[(i,true,AObj.cells [AV.map jf,AV.map js]),(jf,true,xf),(js,true,xs)])).append_right R)⟩
 have hfn:=ok.fn
 have hsn:=ok.sn
 refine Wh hks (Nat.le_trans ok.fn (by decide)) (fun x hx=>Nat.le_trans (HX (ok.fw x hx)) (by decide)) s2 fun h3 s3=>?_
 refine XE hks (Nat.le_trans ok.sn (by decide)) (fun x hx=>Nat.le_trans (HX (ok.sw x hx)) (by decide)) s3 fun h4 s4=>?_
 have fin:∀ (cs:List AV) (h6:ae),cs=yf w→WkS h0 M h6 i w ((q,true,.cells cs)::(p,true,.cells (rqE r).cells)::R)→WkS h0 M h6 i w R:=fun cs h6 hc s6=>by
  obtain⟨jf,js,xf,xs,mf,ms,s6⟩:=s6
  exact⟨jf,js,xf,xs,mf,ms,s6.sub (by exact (((List.sublist_cons_self _ _).trans (List.sublist_cons_self _ _)).cons_cons _).cons_cons _ |>.cons_cons _)⟩
 refine Qq hF hI hA hL (frags:=w.f) (syms:=w.s) (Row.snap (enc:=frE) (fun _=>rfl) _) (Row.snap (enc:=syE) (fun _=>rfl) _) (abT (by omega) (by omega) fun x hx=>by have:=ok.txt x hx;omega) (fun hd h5 f5=>?_) (fun hd h5 f5=>?_)
 ·have s5:=s4.after f5
  refine aG rfl (aG rfl (cz (bD (ah (fun _=>?_) (fun h=>?_)))))
  ·refine aD rfl ?_
   have hb:[I 14,T [],AV.full 0 [],.snap (kB w.f w.s).length ((kB w.f w.s).flatMap dE)]=yf w:=by unfold yf;rw[if_neg hd]
   refine ye (o:=0) s5 .head rfl rfl rfl (nle rfl) fun h6 s6=>?_
   refine BC s6 (.head _) (nle rfl) ?_
   rw[← hb]at k
   exact k _ (fin _ _ hb s6)
  ·have:=List.length_pos_iff.2 hd
   have h:=of_decide_eq_false h;omega
 ·have s5:=s4.after f5
  refine aG rfl (aG rfl (ef (bD (ah (fun h=>by cases h) (fun _=>?_)))))
  refine aD rfl ?_
  have hb:[I 0,T [],.snap (vI w.f w.s).length ((vI w.f w.s).flatMap bE),AV.full 0 []]=yf w:=by unfold yf;rw[if_pos hd]
  refine ye (o:=0) s5 .head rfl rfl rfl (nle rfl) fun h6 s6=>?_
  refine BC s6 (.head _) (nle rfl) ?_
  rw[← hb]at k
  exact k _ (fin _ _ hb s6)
theorem YJ {r:Rq}(h:ml r=true) (h7:r.kind=7):r.name=[]∧r.text=[]∧r.value=0:=by
 unfold ml at h
 rw[if_neg (by omega),if_pos h7]at h
 exact of_decide_eq_true h
theorem X5 (hF:cB) (hI:gH) (hA:ju) (hL:dz) (hks:Md) {r:Rq}(hr:ml r=true) (h7:r.kind=7) (ok:WkOk w) (s:WkS h0 M h i w R) (k:∀ h',WkS h0 M h' i w R→Q (.agg (yf w)) h'):C iP [.ptr i 0,rqE r] h Q:=by
 refine vY _ _ _ _ ?_
 unfold vn
 obtain⟨jf,js,xf,xs,mf,ms,s⟩:=s
 refine bB s rfl fun p h1 s1=>?_
 refine aM s1 fun q h2 s2=>?_
 refine aF s2 (.tail _ (.head _)) (nle rfl) ?_
 refine JI r (by rw[(YJ hr h7).1];decide) fun h3 f3=>?_
 have s3:=s2.after f3
 rw[hr]
 refine bm (ah (fun h=>by cases h) (fun _=>?_))
 refine aj (ag s3 (.tail _ (.head _)) rfl ?_)
 refine aF s3 (.tail _ (.head _)) (nle rfl) ?_
 show C qe [I r.kind] h3 _
 rw[h7]
 refine PL (n:=6) (by decide) fun a ha=>?_
 refine⟨aF s3 (.tail _ (.head _)) (nle rfl) rfl,?_⟩
 cases ha
 have s4:WkS h0 M h3 i w ((q,true,.cells [I 0,S ⟨#[]⟩,.full 0 [],.full 0 []])::(p,true,.cells (AV.cells (rqE r)))::R):=⟨jf,js,xf,xs,mf,ms,s3.perm (by
   refine (List.perm_append_comm (l₁:=[(q,true,AObj.cells [I 0,S ⟨#[]⟩,.full 0 [],.full 0 []]),(p,true,.cells (AV.cells (rqE r)))]) (l₂:=[(i,true,AObj.cells [AV.map jf,AV.map js]),(jf,true,xf),(js,true,xs)])).append_right R)⟩
 refine Q8 hF hI hA hL hks ok s4 fun h5 s5=>?_
 have hb4:(yf w).length=4∧(yf w).all AV.one=true:=by unfold yf;split<;>exact⟨rfl,rfl⟩
 refine ye (o:=0) (cs:=[I 0,S ⟨#[]⟩,.full 0 [],.full 0 []]) (R':=(q,true,.cells (yf w))::(p,true,.cells (AV.cells (rqE r)))::R) s5 ?_ rfl hb4.1 hb4.2 (nle rfl) fun h6 s6=>?_
 ·have:splice [I 0,S ⟨#[]⟩,.full 0 [],.full 0 []] 0 (AV.agg (yf w)).cells=yf w:=by
   show splice _ 0 (yf w)=_
   simp[splice,hb4.1]
  rw[this];exact .head
 refine BC s6 (.head _) (by rw[hb4.1];exact Nat.le_refl 4) ?_
 rw[List.drop_zero,List.take_of_length_le (by rw[hb4.1];exact Nat.le_refl 4)]
 refine k _ ?_
 obtain⟨jf,js,xf,xs,mf,ms,s6⟩:=s6
 exact⟨jf,js,xf,xs,mf,ms,s6.sub (by exact (((List.sublist_cons_self _ _).trans (List.sublist_cons_self _ _)).cons_cons _).cons_cons _ |>.cons_cons _)⟩
structure WkG (w:WkM):Prop where
 ok:WkOk w
 so:WkSo w
theorem WkG.nil:WkG ⟨[],[]⟩:=⟨.nil,.nil⟩
def doG (w:WkM) (r:Rq):WkM:=if r.kind=7 then w else (doW w r).1
def GB (w:WkM) (r:Rq):List AV:=if r.kind=7 then yf w else reL (doW w r).2.1 (doW w r).2.2
theorem WkG.doG {w:WkM}(o:WkG w) (r:Rq):WkG (doG w r):=by
 unfold AL.doG
 split
 ·exact o
 ·rename_i h7
  exact⟨o.ok.doW o.so h7,o.so.doW r⟩
theorem aa7 (hF:cB) (hI:gH) (hA:ju) (hL:dz) (hks:Md) {r:Rq}(hr:ml r=true) (hn:r.name.length≤1000) (o:WkG w) (s:WkS h0 M h i w R) (k:∀ h',WkS h0 M h' i (doG w r) R→Q (.agg (GB w r)) h'):C iP [.ptr i 0,rqE r] h Q:=by
 by_cases h7:r.kind=7
 ·unfold doG GB at k
  rw[if_pos h7,if_pos h7]at k
  exact X5 hF hI hA hL hks hr h7 o.ok s k
 ·unfold doG GB at k
  rw[if_neg h7,if_neg h7]at k
  exact aci o.ok (by omega) h7 s s.so.f k
end
end
section
section
variable [Tabs]
variable {h0 h:ae}{M:List Nat}{L R:Own}{K:AV→Prop}{Q:QT}
def QB (i:Nat) (n:Nat):Bool:=(decide (97≤n∧n≤122)||decide (n=95))||(decide (0<i)&&bu n)
def dgB (i:Nat) (n:Nat) (d:Bool):Bool:=if 0<i∧bu n=false then false else d
theorem ZP {x:AV}{i n:Nat}{d e:Bool}(hi:i≤12) (he:e=bu n) {nx:NT}(k:nx [x,B (dgB i n d),I ((i+1:Nat):Int)] h):jT [x,B d,I (i:Nat)] (B e) h nx:=by
 unfold jT
 unfold dgB at k
 subst he
 (repeat refine bD ?_)
 refine ah (fun h1=>?_) (fun h1=>?_)<;>simp only[za,zb,zc,zd,ze,zf,zg,zh,zi,u8i,zj,zk,zl]at h1
 ·(repeat refine bm ?_)
  unfold vk
  cases hp:bu n
  ·rw[if_pos ⟨by omega,hp⟩]at k
   unfold io pS
   exact aI (by omega) k
  ·rw[if_neg (by simp[hp])]at k
   unfold io pS
   exact aI (by omega) k
 ·rw[if_neg (by omega)]at k
  unfold io pS
  exact aI (by omega) k
theorem ac6 {x:AV}{i n:Nat}{c:UInt8}{d e a:Bool}(hn:n=c.toNat) (hi:i≤12) (he:e=bu n) (ha:a=!decide (97≤n∧n≤122)) {nx:NT}
  (k:if QB i n then nx [x,B (dgB i n d),I ((i+1:Nat):Int)] h else Q (B false) h):mV (B a) (.lit (.int .u8 n)) [x,B d,I (i:Nat)] Q h (B e) nx:=by
 unfold mV
 subst ha
 unfold QB at k
 by_cases h1:97≤n∧n≤122
 ·rw[if_pos (by simp[h1])]at k
  rw[decide_eq_true h1]
  exact ZP hi he k
 ·rw[decide_eq_false h1]
  (repeat refine bU ?_)
  refine ah (fun h2=>?_) (fun h2=>?_)<;>simp only[za,zb,zc,zd,ze,zf,zg,zh,zi,u8i,zj,zk,zl]at h2
  ·(repeat refine aA ?_)
   refine ah (fun h3=>?_) (fun h3=>?_)<;>simp only[za,zb,zc,zd,ze,zf,zg,zh,zi,u8i,zj,zk,zl]at h3
   ·skip
    rw[if_neg (by simp[h1];omega)]at k
    exact k
   ·(repeat refine bm ?_)
    subst he
    cases hp:bu n
    ·rw[if_neg (by simp[h1,hp];omega)]at k
     exact k
    ·rw[if_pos (by simp[hp];omega)]at k
     have:=ZP (x:=x) (d:=d) hi hp.symm k
     exact this
  ·rw[if_pos (by simp;omega)]at k
   exact ZP hi he k
theorem acW {x:AV}{s:Str}{i:Nat}{d:Bool}(hi:i<s.length) (hl:s.length≤12) {nx:NT}
  (k:if QB i s[i].toNat then nx [x,B (dgB i s[i].toNat d),I ((i+1:Nat):Int)] h else Q (B false) h):iG (T s) Q [x,B d,I (i:Nat)] h nx:=by
 unfold iG
 (repeat (first|refine aZ ?_|refine aJ ?_))
 refine ah (fun h1=>?_) (fun h1=>?_)<;>simp only[za,zb,zc,zd,ze,zf,zg,zh,zi,u8i,zj,zk,zl]at h1
 ·refine bR hi ?_
  have hn:∀ {e a:Bool},e=bu s[i].toNat→a=!decide (97≤s[i].toNat∧s[i].toNat≤122)→mV (B a) (U8 s[i]) [x,B d,I (i:Nat)] Q h (B e) nx:=fun he ha=>ac6 rfl (by omega) he ha k
  have q1:∀ p q:Bool,(p=true↔q=true)→p=q:=fun p q=>Bool.eq_iff_iff.2
  refine bz ?_
  refine ah (fun h2=>?_) (fun h2=>?_)<;>simp only[za,zb,zc,zd,ze,zf,zg,zh,zi,u8i,zj,zk,zl]at h2
  ·refine fK (bz ?_)
   refine ah (fun h3=>?_) (fun h3=>?_)<;>simp only[za,zb,zc,zd,ze,zf,zg,zh,zi,u8i,zj,zk,zl]at h3
   ·refine fK (bm ?_)
    exact hn (q1 _ _ (by simp[bu];omega)) (q1 _ _ (by simp;omega))
   ·refine bm ?_
    exact hn (q1 _ _ (by simp[bu];omega)) (q1 _ _ (by simp;omega))
  ·refine bz ?_
   refine ah (fun h3=>?_) (fun h3=>?_)<;>simp only[za,zb,zc,zd,ze,zf,zg,zh,zi,u8i,zj,zk,zl]at h3
   ·refine fK (bm ?_)
    exact hn (e:=false) (q1 _ _ (by simp[bu];omega)) (q1 _ _ (by simp;omega))
   ·refine bm ?_
    exact hn (e:=false) (q1 _ _ (by simp[bu];omega)) (q1 _ _ (by simp;omega))
 ·omega
theorem acG {x:AV}{s:Str}{d:Bool}{nx:NT}(k:Q (B (!d)) h):iG (T s) Q [x,B d,I (s.length:Nat)] h nx:=by
 unfold iG
 (repeat (first|refine aZ ?_|refine aJ ?_))
 refine ah (fun h1=>?_) (fun h1=>?_)<;>simp only[za,zb,zc,zd,ze,zf,zg,zh,zi,u8i,zj,zk,zl]at h1
 ·omega
 ·(repeat refine bm ?_)
  exact k
def r3F:Str→Nat→Bool→Bool
 | [],_,d=>!d
 | c::t,i,d=>if QB i c.toNat then r3F t (i+1) (dgB i c.toNat d) else false
theorem Zd:∀ (t:Str) (i:Nat) (d:Bool),0<i→r3F t i d=(t.all (fun c=>dp c.toNat)&&!(d&&t.all fun c=>bu c.toNat))
 | [],i,d,_=>by simp[r3F]
 | c::t,i,d,h=>by
   unfold r3F
   have e:QB i c.toNat=dp c.toNat:=by
    unfold QB dp xV bu
    rw[Bool.eq_iff_iff];simp[h];try omega
   rw[e,Zd t (i+1) _ (by omega)]
   unfold dgB
   simp only[List.all_cons]
   cases dp c.toNat<;>cases hp:bu c.toNat<;>simp[h,hp]
theorem Y1 (c:UInt8) (t:Str) (hl:(c::t).length≤12):r3F (c::t) 0 (decide (c=114)&&decide (t.length > 0))=eH (c::t):=by
 unfold r3F eH
 rw[Zd t 1 _ (by omega),decide_eq_true hl]
 have e:QB 0 c.toNat=(!bu c.toNat&&dp c.toNat):=by
  unfold QB dp xV bu
  rw[Bool.eq_iff_iff];simp;try omega
 have e2:dgB 0 c.toNat (decide (c=114)&&decide (t.length > 0))=(decide (c=114)&&decide (t.length > 0)):=by unfold dgB;simp
 rw[e,e2]
 simp only[List.all_cons]
 cases t with
 | nil=>cases bu c.toNat<;>cases dp c.toNat<;>simp
 | cons b t=>by_cases h:c=114<;>cases bu c.toNat<;>cases dp c.toNat<;>simp[h]
theorem PS (s:Str) (hs:s.length<4611686018427387904) (k:Q (B (eH s)) h):C mD [T s] h Q:=by
 refine Np _ _ _ ?_
 unfold Kk
 (repeat (first|refine aZ ?_|refine aJ ?_))
 refine ah (fun h1=>?_) (fun h1=>?_)<;>simp only[za,zb,zc,zd,ze,zf,zg,zh,zi,u8i,zj,zk,zl]at h1
 ·match s,h1 with
  | [],_=>exact k
  | c::t,h1=>simp at h1;omega
 ·(repeat (first|refine aZ ?_|refine bD ?_))
  refine ah (fun h2=>?_) (fun h2=>?_)<;>simp only[za,zb,zc,zd,ze,zf,zg,zh,zi,u8i,zj,zk,zl]at h2
  ·match s,h1 with
   | c::t,_=>
     have:eH (c::t)=false:=by unfold eH;rw[decide_eq_false (by omega)];rfl
     rw[this]at k;exact k
  ·match s,h1 with
   | c::t,_=>
     have hl:(c::t).length≤12:=by omega
     have go:∀ d:Bool,d=(decide (c=114)&&decide (t.length > 0))→cc [B false,B d,I 0] h fun vs h nx=>iG (T (c::t)) Q vs h nx:=fun d hd=>by
      refine aQ (fun n vs h'=>∃ (i:Nat) (d:Bool),vs=[B false,B d,I (i:Nat)]∧h'=h∧n+i=(c::t).length∧r3F ((c::t).drop i) i d=eH (c::t)) (c::t).length ⟨0,d,rfl,rfl,rfl,by rw[hd];exact Y1 c t hl⟩ ?_
      rintro n vs h' ⟨i,d,rfl,rfl,hn,hr⟩
      by_cases hi:i<(c::t).length
      ·refine acW hi hl ?_
       rw[List.drop_eq_getElem_cons hi]at hr
       unfold r3F at hr
       split
       ·rename_i hf
        rw[if_pos hf]at hr
        exact⟨n-1,by omega,i+1,_,rfl,rfl,by omega,hr⟩
       ·rename_i hf
        rw[if_neg hf]at hr
        rw[← hr]at k;exact k
      ·obtain rfl:i=(c::t).length:=by omega
       rw[List.drop_length]at hr
       unfold r3F at hr
       rw[← hr]at k
       exact acG k
     refine bR (i:=0) (by simp) ?_
     (repeat refine aA ?_)
     have e0:(c::t)[0].toNat=c.toNat:=rfl
     have ec:c.toNat=114↔c=114:=⟨fun h=>by rw[← UInt8.ofNat_toNat (x:=c),h];rfl,fun h=>by rw[h];rfl⟩
     refine ah (fun h3=>?_) (fun h3=>?_)<;>simp only[za,zb,zc,zd,ze,zf,zg,zh,zi,u8i,zj,zk,zl]at h3
     ·(repeat (first|refine aZ ?_|refine bD ?_))
      rw[e0]at h3
      have h4:c=114:=ec.1 (by omega)
      refine go _ ?_
      rw[decide_eq_true h4,Bool.true_and]
      rw[Bool.eq_iff_iff];simp
      omega
     ·rw[e0]at h3
      have h4:¬ c=114:=fun h=>h3 (by have:=ec.2 h;omega)
      exact go _ (by rw[decide_eq_false h4,Bool.false_and])
end
end
section
theorem Um {c:UInt8}{n:Nat}(hn:n<256):((c.toNat:Int)=(n:Int))↔c=UInt8.ofNat n:=by
 constructor
 ·intro h
  have:c.toNat=n:=by omega
  rw[← this,UInt8.ofNat_toNat]
 ·rintro rfl
  have:(UInt8.ofNat n).toNat=n:=by simp;omega
  rw[this]
theorem Cy {s:Str}{p:Nat}(h:p<s.length):s.drop p=s[p]::s.drop (p+1):=List.drop_eq_getElem_cons h
section
variable [Tabs]
abbrev rO (s:Str) (p d:Nat) (b:Bool):AObj:=.cells [T s,I (p:Nat),I (d:Nat),B b]
variable {h:ae}{Q:QT}{i d p:Nat}{s:Str}{b:Bool}
theorem MI (hs:s.length<1000000000) (e:h[i]?=some (rO s p d b)) (hp:p≤s.length) (k:∀ p' h',p'≤s.length→s.drop p'=blk (s.drop p)→Fr [i] h h'→h'[i]?=some (rO s p' d b)→Q (.tup []) h'):C gI [.ptr i 0] h Q:=by
 refine y8 _ _ _ ?_
 unfold tG
 refine aQ (fun n vs h'=>∃ q,vs=[]∧n+q=s.length∧blk (s.drop q)=blk (s.drop p)∧Fr [i] h h'∧h'[i]?=some (rO s q d b)) (s.length-p) ⟨p,rfl,by omega,rfl,Fr.refl _ _,e⟩ ?_
 rintro n vs h1 ⟨q,rfl,hn,hq,f1,e1⟩
 unfold pA
 have st:=St.start1 e1
 (repeat (first|refine au ?_|refine aj ?_|refine aZ ?_|refine aJ ?_|refine ag ‹_› (.head _) rfl ?_))
 refine ah (fun b1=>?_) (fun b1=>?_)<;>simp only[za,zb,zc,zd,ze,zf,zg,zh,zi,u8i,zj,zk,zl]at b1
 ·(repeat (first|refine au ?_|refine aj ?_|refine ag ‹_› (.head _) rfl ?_))
  refine bR (by omega) ?_
  refine aA ?_
  have hd:=Cy (s:=s) (p:=q) (by omega)
  refine ah (fun b2=>?_) (fun b2=>?_)
  ·have b2:s[q]=32:=(Um (n:=32) (by decide)).1 (of_decide_eq_true b2)
   (repeat (first|refine au ?_|refine aj ?_|refine aI (by omega) ?_|refine ag ‹_› (.head _) rfl ?_))
   refine ax st .head rfl rfl rfl (nle rfl) fun h2 s2=>?_
   refine⟨n-1,by omega,q+1,rfl,by omega,?_,f1.trans s2.fr (by simp),s2.get (.head _)⟩
   rw[← hq,hd,b2];rfl
  ·have b2:¬ s[q]=32:=fun h=>of_decide_eq_false b2 ((Um (n:=32) (by decide)).2 h)
   refine k q h1 (by omega) ?_ f1 e1
   rw[← hq,hd]
   show _=iR 32 _
   unfold iR
   rw[if_neg b2]
 ·refine k q h1 (by omega) ?_ f1 e1
  rw[← hq,List.drop_of_length_le (by omega)];rfl
theorem GR {m:Str}(hm:m.length<1000) (hs:s.length<1000000000) (e:h[i]?=some (rO s p d b)) (hp:p≤s.length)
  (k1:m.isPrefixOf (blk (s.drop p))=true→∀ p' h',p'≤s.length→s.drop p'=(blk (s.drop p)).drop m.length→Fr [i] h h'→h'[i]?=some (rO s p' d b)→Q (B true) h')
  (k0:m.isPrefixOf (blk (s.drop p))=false→∀ p' h',p'≤s.length→s.drop p'=blk (s.drop p)→Fr [i] h h'→h'[i]?=some (rO s p' d b)→Q (B false) h'):C cS [.ptr i 0,T m] h Q:=by
 refine Bu _ _ _ _ ?_
 unfold xu
 refine MI hs e hp fun q h1 hq hd f1 e1=>?_
 have st:=St.start1 e1
 rw[← hd]at k1 k0
 have hlen:(s.drop q).length=s.length-q:=List.length_drop
 (repeat (first|refine au ?_|refine aj ?_|refine aZ ?_|refine bD ?_|refine aI (by omega) ?_|refine ag ‹_› (.head _) rfl ?_))
 refine ah (fun b1=>?_) (fun b1=>?_)<;>simp only[za,zb,zc,zd,ze,zf,zg,zh,zi,u8i,zj,zk,zl]at b1
 ·refine k0 ?_ q h1 hq rfl f1 e1
  cases hx:m.isPrefixOf (s.drop q) with
  | false=>rfl
  | true=>
    have:=(List.isPrefixOf_iff_prefix.1 hx).length_le
    omega
 ·(repeat (first|refine au ?_|refine aj ?_|refine aZ ?_|refine aI (by omega) ?_|refine ag ‹_› (.head _) rfl ?_))
  refine Hz (by omega) (by omega) (by omega) ?_
  have ht:(s.drop ((q:Int)).toNat).take (((q:Int)+(m.length:Nat)).toNat-((q:Int)).toNat)=(s.drop q).take m.length:=by
   rw[Int.toNat_natCast,show ((q:Int)+(m.length:Nat)).toNat-q=m.length by omega]
  rw[ht]
  refine nD ?_
  refine ah (fun b2=>?_) (fun b2=>?_)
  ·refine k0 ?_ q h1 hq rfl f1 e1
   cases hx:m.isPrefixOf (s.drop q) with
   | false=>rfl
   | true=>
     have:=List.isPrefixOf_iff_prefix.1 hx
     rw[List.prefix_iff_eq_take]at this
     simp[← this]at b2
  ·have hx:m.isPrefixOf (s.drop q)=true:=by
    rw[List.isPrefixOf_iff_prefix,List.prefix_iff_eq_take]
    exact (by simpa using b2:_=_).symm
   (repeat (first|refine au ?_|refine aj ?_|refine aZ ?_|refine aI (by omega) ?_|refine ag ‹_› (.head _) rfl ?_))
   refine ax st .head rfl rfl rfl (nle rfl) fun h2 s2=>?_
   refine k1 hx (q+m.length) h2 (by omega) (by rw[List.drop_drop]) (f1.trans s2.fr (by simp)) ?_
   have:=s2.get (.head _)
   rw[this]
   show some (AObj.cells [T s,I ((q:Int)+(m.length:Nat)),I (d:Nat),B b])=_
   rw[show ((q:Int)+(m.length:Nat))=((q+m.length:Nat):Int) by omega]
def mU (base:Nat) (c:UInt8):Bool:=if base=16 then wv c.toNat else bu c.toNat
theorem Az {base:Nat}(hb:base=10∨base=16) (c:UInt8) (k:Q (I (if mU base c=true then (pn c:Nat) else -1)) h):C kV [U8 c,I (base:Nat)] h Q:=by
 refine Jj _ _ _ _ ?_
 unfold Ie
 have hc:=c.toNat_lt
 have cv97:97≤c.toNat→IntKind.i64.wrap (IntKind.u8.wrap ((c.toNat:Int)-97))=((c.toNat-97:Nat):Int):=fun hm=>by
  have:IntKind.u8.wrap ((c.toNat:Int)-97)=((c.toNat-97:Nat):Int):=by rw[IntKind.wrap_u8];omega
  rw[this];exact tR (by omega)
 have cv48:48≤c.toNat→IntKind.i64.wrap (IntKind.u8.wrap ((c.toNat:Int)-48))=((c.toNat-48:Nat):Int):=fun hm=>by
  have:IntKind.u8.wrap ((c.toNat:Int)-48)=((c.toNat-48:Nat):Int):=by rw[IntKind.wrap_u8];omega
  rw[this];exact tR (by omega)
 have let16:base=16→¬ (48≤c.toNat∧c.toNat≤57)→(ai .geq (U8 c) (.lit (.int .u8 97)) fun t20=>ifB t20 (ai .leq (U8 c) (.lit (.int .u8 102)) fun t24=>ifB t24 (
   ai .sub (U8 c) (.lit (.int .u8 97)) fun t27=>ck .i64 t27 fun t28=>ai .add t28 (I 10) fun t29=>Q t29 h) (Q (I (-1)) h)) (Q (I (-1)) h)):=fun h16 hnd=>by
  refine bz ?_
  refine ah (fun b1=>?_) (fun b1=>?_)<;>simp only[za,zb,zc,zd,ze,zf,zg,zh,zi,u8i,zj,zk,zl]at b1
  ·refine fK ?_
   refine ah (fun b2=>?_) (fun b2=>?_)<;>simp only[za,zb,zc,zd,ze,zf,zg,zh,zi,u8i,zj,zk,zl]at b2
   ·refine F2 (ew ?_)
    rw[cv97 (by omega)]
    refine aI (by omega) ?_
    have hp:mU base c=true:=by unfold mU wv bu;rw[if_pos h16];simp;omega
    rw[if_pos hp]at k
    have hv:pn c=c.toNat-97+10:=by unfold pn;rw[if_pos (by omega)]
    rw[hv]at k
    rw[show ((c.toNat-97:Nat):Int)+10=((c.toNat-97+10:Nat):Int) by omega]
    exact k
   ·have hp:¬ mU base c=true:=by unfold mU wv bu;rw[if_pos h16];simp;omega
    rw[if_neg hp]at k
    exact k
  ·have hp:¬ mU base c=true:=by unfold mU wv bu;rw[if_pos h16];simp;omega
   rw[if_neg hp]at k
   exact k
 have rest:¬ (48≤c.toNat∧c.toNat≤57)→(ai .eql (I (base:Nat)) (I 16) fun t17=>ifB t17 (ai .geq (U8 c) (.lit (.int .u8 97)) fun t20=>ifB t20 (ai .leq (U8 c) (.lit (.int .u8 102)) fun t24=>ifB t24 (
   ai .sub (U8 c) (.lit (.int .u8 97)) fun t27=>ck .i64 t27 fun t28=>ai .add t28 (I 10) fun t29=>Q t29 h) (Q (I (-1)) h)) (Q (I (-1)) h)) (Q (I (-1)) h)):=fun hnd=>by
  refine aA ?_
  refine ah (fun b0=>?_) (fun b0=>?_)<;>simp only[za,zb,zc,zd,ze,zf,zg,zh,zi,u8i,zj,zk,zl]at b0
  ·exact let16 (by omega) hnd
  ·have hp:¬ mU base c=true:=by unfold mU bu;rw[if_neg (by omega)];simp;omega
   rw[if_neg hp]at k
   exact k
 refine bz ?_
 refine ah (fun b1=>?_) (fun b1=>?_)<;>simp only[za,zb,zc,zd,ze,zf,zg,zh,zi,u8i,zj,zk,zl]at b1
 ·refine fK ?_
  refine ah (fun b2=>?_) (fun b2=>?_)<;>simp only[za,zb,zc,zd,ze,zf,zg,zh,zi,u8i,zj,zk,zl]at b2
  ·refine F2 (ew ?_)
   rw[cv48 (by omega)]
   have hp:mU base c=true:=by unfold mU wv bu;split<;>simp<;>omega
   rw[if_pos hp]at k
   have hv:pn c=c.toNat-48:=by unfold pn;rw[if_neg (by omega)]
   rw[hv]at k
   exact k
  ·exact rest (by omega)
 ·exact rest (by omega)
end
end
section
section
variable [Tabs]
variable {h:ae}{Q:QT}{i D p:Nat}{s:Str}{b:Bool}
structure RRes (i:Nat) (s:Str) (D:Nat) (m:Option (Ex×Str)) (h:ae) (Q:QT):Prop where
 good:∀ x p' h',p'≤s.length→m=some (x,s.drop p')→Fr [i] h h'→h'[i]?=some (rO s p' D false)→Q (.agg (br x)) h'
 bad:∀ cs p' h',p'≤s.length→m=none→Fr [i] h h'→h'[i]?=some (rO s p' D true)→cs.length=4→cs.all AV.one=true→Q (.agg cs) h'
def uN (base:Nat) (l:Str):Str:=l.takeWhile (mU base)
def AU (base:Nat):PF:=fun l=>if uN base l=[] then none else match qJ base (uN base l) 0 with
 | none=>none
 | some n=>some (.num n,l.drop (uN base l).length)
theorem Ue {base q:Nat}(hq:q<s.length):uN base (s.drop q)=if mU base s[q]=true then s[q]::uN base (s.drop (q+1)) else []:=by
 unfold uN
 rw[Cy hq,List.takeWhile_cons]
theorem Ek {base:Nat}(hb:base=10∨base=16) (hs:s.length<1000000000) (hp:p≤s.length) (e:h[i]?=some (rO s p D false)) (r:RRes i s D (AU base (s.drop p)) h Q):C fC [.ptr i 0,I (base:Nat)] h Q:=by
 refine wm _ _ _ _ ?_
 unfold qI
 refine aM (St.start1 e) fun q4 h1 s1=>?_
 (repeat (first|refine au ?_|refine aj ?_|refine ag ‹_› (by first|exact .head _|exact .tail _ (.head _)) rfl ?_))
 refine aQ (fun n vs h'=>∃ (q m:Nat),vs=[I (m:Nat)]∧m<4294967296∧n+q=s.length∧p≤q∧(uN base (s.drop q)).length+q=(uN base (s.drop p)).length+p∧qJ base (uN base (s.drop q)) m=qJ base (uN base (s.drop p)) 0∧St h [i] h' [(q4,true,.cells zE),(i,true,rO s q D false)]) (s.length-p) ⟨p,0,rfl,by omega,by omega,Nat.le_refl _,rfl,rfl,s1⟩ ?_
 rintro n vs h2 ⟨q,m,rfl,hm,hn,hpq,hlen,hnum,s2⟩
 unfold mC
 have fin:uN base (s.drop q)=[]→fE (.ptr i 0) h2 (I (p:Nat)) [I (m:Nat)] (.ptr q4 0) Q:=fun hd=>by
  unfold fE
  rw[hd]at hlen hnum
  have hnum:qJ base (uN base (s.drop p)) 0=some m:=hnum.symm
  simp only[List.length_nil,Nat.zero_add]at hlen
  have hq:q≤s.length:=by omega
  refine au (aj (ag s2 (.tail _ (.head _)) rfl (aA ?_)))
  refine ah (fun b1=>?_) (fun b1=>?_)<;>simp only[za,zb,zc,zd,ze,zf,zg,zh,zi,u8i,zj,zk,zl]at b1
  ·have he:uN base (s.drop p)=[]:=List.length_eq_zero_iff.1 (by omega)
   have hm0:AU base (s.drop p)=none:=by unfold AU;rw[if_pos he]
   refine au (aj ?_)
   refine ax (o:=0+3) s2 (.tail .head) rfl rfl rfl (nle rfl) fun h3 s3=>?_
   unfold eU
   refine aD rfl ?_
   refine aN s3 bc rfl rfl .head fun h4 s4=>?_
   refine aL s4 rfl (.head _) ?_
   exact r.bad _ q _ hq hm0 s4.fr (s4.get (.tail _ (.head _))) rfl rfl
  ·have he:¬ uN base (s.drop p)=[]:=fun h=>by rw[h]at hlen;simp at hlen;omega
   have hm0:AU base (s.drop p)=some (.num m,s.drop q):=by
    unfold AU;rw[if_neg he,hnum,List.drop_drop]
    simp only;congr 3;omega
   unfold eU
   refine aD rfl ?_
   refine aN s2 bc rfl rfl .head fun h4 s4=>?_
   refine aL s4 rfl (.head _) ?_
   exact r.good (.num m) q _ hq hm0 s4.fr (s4.get (.tail _ (.head _)))
 (repeat (first|refine au ?_|refine aj ?_|refine aZ ?_|refine aJ ?_|refine ag ‹_› (by first|exact .head _|exact .tail _ (.head _)) rfl ?_))
 refine ah (fun b1=>?_) (fun b1=>?_)<;>simp only[za,zb,zc,zd,ze,zf,zg,zh,zi,u8i,zj,zk,zl]at b1
 ·have hq:q<s.length:=by omega
  have hd:=Ue (base:=base) hq
  refine au (aj (ag s2 (.tail _ (.head _)) rfl (au (aj (ag s2 (.tail _ (.head _)) rfl (bR hq ?_))))))
  refine Az hb s[q] ?_
  refine bz ?_
  refine ah (fun b2=>?_) (fun b2=>?_)<;>simp only[za,zb,zc,zd,ze,zf,zg,zh,zi,u8i,zj,zk,zl]at b2
  ·have hpb:mU base s[q]=true:=by
    cases hx:mU base s[q] with
    | true=>rfl
    | false=>rw[hx]at b2;simp at b2
   rw[if_pos hpb]at hd
   rw[hd,List.length_cons]at hlen
   rw[hd,qJ]at hnum
   have hbm:((base:Nat):Int)*(m:Nat)=((m*base:Nat):Int):=by rw[Int.mul_comm];simp
   have hdv:=Iq (base:=base) (by omega) s[q] m hm
   have hdl:pn s[q]<1000:=by have:=s[q].toNat_lt;unfold pn;split<;>omega
   refine vp (by rw[hbm];omega) ?_
   rw[hbm]
   refine au (aj (ag s2 (.tail _ (.head _)) rfl (au (aj (ag s2 (.tail _ (.head _)) rfl (bR hq ?_))))))
   refine Az hb s[q] ?_
   rw[if_pos hpb]
   refine aI (by omega) ?_
   rw[show ((m*base:Nat):Int)+(pn s[q]:Nat)=((m*base+pn s[q]:Nat):Int) by omega]
   refine au (aj (ag s2 (.tail _ (.head _)) rfl (aI (by omega) (au (aj ?_)))))
   refine ax (o:=0+1) s2 (.tail .head) rfl rfl rfl (nle rfl) fun h3 s3=>?_
   have s3:St h [i] h3 [(q4,true,.cells zE),(i,true,rO s (q+1) D false)]:=s3
   refine bz ?_
   refine ah (fun b3=>?_) (fun b3=>?_)<;>simp only[za,zb,zc,zd,ze,zf,zg,zh,zi,u8i,zj,zk,zl]at b3
   ·rw[if_pos (by omega)]at hnum
    have hm0:AU base (s.drop p)=none:=by
     unfold AU;rw[← hnum];split<;>rfl
    refine au (aj ?_)
    refine ax (o:=0+3) s3 (.tail .head) rfl rfl rfl (nle rfl) fun h4 s4=>?_
    refine aD rfl ?_
    refine aN s4 bc rfl rfl .head fun h5 s5=>?_
    refine aL s5 rfl (.head _) ?_
    exact r.bad _ (q+1) _ (by omega) hm0 s5.fr (s5.get (.tail _ (.head _))) rfl rfl
   ·rw[if_neg (by omega)]at hnum
    exact⟨n-1,by omega,q+1,m*base+pn s[q],rfl,by omega,by omega,by omega,by omega,hnum,s3⟩
  ·have hpb:¬ mU base s[q]=true:=fun h=>by rw[if_pos h]at b2;omega
   rw[if_neg hpb]at hd
   exact fin hd
 ·refine fin ?_
  rw[List.drop_of_length_le (by omega)];rfl
def IT:PF:=fun l=>if eH (gv l)=true then some (.name (gv l),l.drop (gv l).length) else none
theorem Tp {q:Nat}(hq:q<s.length):gv (s.drop q)=if dp s[q].toNat=true then s[q]::gv (s.drop (q+1)) else []:=by
 unfold gv
 rw[Cy hq,List.takeWhile_cons]
theorem J2 (hs:s.length<1000000000) (hp:p≤s.length) (e:h[i]?=some (rO s p D false)) (r:RRes i s D (IT (s.drop p)) h Q):C gG [.ptr i 0] h Q:=by
 refine zo _ _ _ ?_
 unfold uC
 refine aM (St.start1 e) fun q4 h1 s1=>?_
 (repeat (first|refine au ?_|refine aj ?_|refine ag ‹_› (by first|exact .head _|exact .tail _ (.head _)) rfl ?_))
 refine aQ (fun n vs h'=>∃ q:Nat,vs=[]∧n+q=s.length∧p≤q∧(gv (s.drop q)).length+q=(gv (s.drop p)).length+p∧St h [i] h' [(q4,true,.cells zE),(i,true,rO s q D false)]) (s.length-p) ⟨p,rfl,by omega,Nat.le_refl _,rfl,s1⟩ ?_
 rintro n vs h2 ⟨q,rfl,hn,hpq,hlen,s2⟩
 unfold nl
 have fin:gv (s.drop q)=[]→gF (.ptr i 0) h2 (I (p:Nat)) (.ptr q4 0) Q:=fun hd=>by
  unfold gF
  rw[hd]at hlen
  simp only[List.length_nil,Nat.zero_add]at hlen
  have hq:q≤s.length:=by omega
  have hw:(s.drop ((p:Nat):Int).toNat).take (((q:Nat):Int).toNat-((p:Nat):Int).toNat)=gv (s.drop p):=by
   simp only[Int.toNat_natCast]
   have hpre:gv (s.drop p) <+: s.drop p:=List.takeWhile_prefix _
   rw[List.prefix_iff_eq_take]at hpre
   rw[hpre];congr 1;omega
  refine au (aj (ag s2 (.tail _ (.head _)) rfl (au (aj (ag s2 (.tail _ (.head _)) rfl (Hz (by omega) (by omega) (by omega) ?_))))))
  rw[hw]
  refine PS _ (by have:=(List.takeWhile_sublist (fun c:UInt8=>dp c.toNat) (l:=s.drop p)).length_le;unfold gv;simp at this ⊢;omega) ?_
  refine bm ?_
  have tail:∀ (b:Bool) (h3:ae),St h [i] h3 [(q4,true,.cells zE),(i,true,rO s q D b)]→(∀ h',St h [i] h' [(q4,true,.cells (br (.name (gv (s.drop p))))),(i,true,rO s q D b)]→Q (.agg (br (.name (gv (s.drop p))))) h')→cn (I (p:Nat)) (.ptr q4 0) (.ptr i 0) h3 Q:=fun b h3 s3 k=>by
   unfold cn
   refine au (aj (ag s3 (.tail _ (.head _)) rfl (au (aj (ag s3 (.tail _ (.head _)) rfl (Hz (by omega) (by omega) (by omega) ?_))))))
   rw[hw]
   refine aD rfl ?_
   refine aN s3 bc rfl rfl .head fun h4 s4=>?_
   refine aL s4 rfl (.head _) ?_
   exact k _ s4
  refine ah (fun b1=>?_) (fun b1=>?_)<;>simp only[za,zb,zc,zd,ze,zf,zg,zh,zi,u8i,zj,zk,zl]at b1
  ·have hm0:IT (s.drop p)=none:=by unfold IT;rw[if_neg (by rw[b1];simp)]
   refine au (aj ?_)
   refine ax (o:=0+3) s2 (.tail .head) rfl rfl rfl (nle rfl) fun h3 s3=>?_
   refine tail true h3 s3 fun h' s'=>?_
   exact r.bad _ q _ hq hm0 s'.fr (s'.get (.tail _ (.head _))) rfl rfl
  ·have hm0:IT (s.drop p)=some (.name (gv (s.drop p)),s.drop q):=by
    unfold IT;rw[if_pos b1,List.drop_drop];congr 3;omega
   refine tail false h2 s2 fun h' s'=>?_
   exact r.good _ q _ hq hm0 s'.fr (s'.get (.tail _ (.head _)))
 have next:q<s.length→dp (s[q]?.getD 0).toNat=true→dL (.ptr i 0) h2 (fun vs' h'=>∃ m,m<n∧∃ q:Nat,vs'=[]∧m+q=s.length∧p≤q∧(gv (s.drop q)).length+q=(gv (s.drop p)).length+p∧St h [i] h' [(q4,true,.cells zE),(i,true,rO s q D false)]):=fun hq hi=>by
  unfold dL
  have hd:=Tp hq
  rw[List.getElem?_eq_getElem hq]at hi
  have hi:dp s[q].toNat=true:=hi
  rw[if_pos hi]at hd
  rw[hd,List.length_cons]at hlen
  refine au (aj (ag s2 (.tail _ (.head _)) rfl (aI (by omega) (au (aj ?_)))))
  refine ax (o:=0+1) s2 (.tail .head) rfl rfl rfl (nle rfl) fun h3 s3=>?_
  exact⟨n-1,by omega,q+1,rfl,by omega,by omega,by omega,s3⟩
 (repeat (first|refine au ?_|refine aj ?_|refine aZ ?_|refine aJ ?_|refine ag ‹_› (by first|exact .head _|exact .tail _ (.head _)) rfl ?_))
 refine ah (fun b1=>?_) (fun b1=>?_)
 ·have hq:q<s.length:=by have:=of_decide_eq_true b1;omega
  have hd:=Tp hq
  have hg:s[q]?.getD 0=s[q]:=by rw[List.getElem?_eq_getElem hq];rfl
  rw[hg]at next
  have next:=next hq
  have hin:dp s[q].toNat=(decide (97≤s[q].toNat)&&decide (s[q].toNat≤122)||decide (s[q].toNat=95)||(decide (48≤s[q].toNat)&&decide (s[q].toNat≤57))):=rfl
  have c2:¬ (97≤s[q].toNat∧s[q].toNat≤122)→¬ (48≤s[q].toNat∧s[q].toNat≤57)→eM (.ptr i 0) h2 (fun vs' h'=>∃ m,m<n∧∃ q:Nat,vs'=[]∧m+q=s.length∧p≤q∧(gv (s.drop q)).length+q=(gv (s.drop p)).length+p∧St h [i] h' [(q4,true,.cells zE),(i,true,rO s q D false)]) (I (p:Nat)) (.ptr q4 0) Q:=fun h1 h2'=>by
   unfold eM
   refine au (aj (ag s2 (.tail _ (.head _)) rfl (au (aj (ag s2 (.tail _ (.head _)) rfl (bR hq ?_))))))
   refine aA ?_
   refine ah (fun b5=>?_) (fun b5=>?_)<;>simp only[za,zb,zc,zd,ze,zf,zg,zh,zi,u8i,zj,zk,zl]at b5
   ·exact next (by rw[hin];simp;omega)
   ·refine fin ?_
    rw[hd,if_neg (by rw[hin];simp;omega)]
  have c1:¬ (97≤s[q].toNat∧s[q].toNat≤122)→eO (.ptr i 0) h2 (fun vs' h'=>∃ m,m<n∧∃ q:Nat,vs'=[]∧m+q=s.length∧p≤q∧(gv (s.drop q)).length+q=(gv (s.drop p)).length+p∧St h [i] h' [(q4,true,.cells zE),(i,true,rO s q D false)]) (I (p:Nat)) (.ptr q4 0) Q:=fun h1=>by
   unfold eO
   refine au (aj (ag s2 (.tail _ (.head _)) rfl (au (aj (ag s2 (.tail _ (.head _)) rfl (bR hq ?_))))))
   refine bz ?_
   refine ah (fun b3=>?_) (fun b3=>?_)<;>simp only[za,zb,zc,zd,ze,zf,zg,zh,zi,u8i,zj,zk,zl]at b3
   ·refine au (aj (ag s2 (.tail _ (.head _)) rfl (au (aj (ag s2 (.tail _ (.head _)) rfl (bR hq ?_))))))
    refine fK ?_
    refine ah (fun b4=>?_) (fun b4=>?_)<;>simp only[za,zb,zc,zd,ze,zf,zg,zh,zi,u8i,zj,zk,zl]at b4
    ·exact next (by rw[hin];simp;omega)
    ·exact c2 h1 (by omega)
   ·exact c2 h1 (by omega)
  refine au (aj (ag s2 (.tail _ (.head _)) rfl (au (aj (ag s2 (.tail _ (.head _)) rfl (bR hq ?_))))))
  refine bz ?_
  refine ah (fun b2=>?_) (fun b2=>?_)<;>simp only[za,zb,zc,zd,ze,zf,zg,zh,zi,u8i,zj,zk,zl]at b2
  ·refine au (aj (ag s2 (.tail _ (.head _)) rfl (au (aj (ag s2 (.tail _ (.head _)) rfl (bR hq ?_))))))
   refine fK ?_
   refine ah (fun b3=>?_) (fun b3=>?_)<;>simp only[za,zb,zc,zd,ze,zf,zg,zh,zi,u8i,zj,zk,zl]at b3
   ·exact next (by rw[hin];simp;omega)
   ·exact c1 (by omega)
  ·exact c1 (by omega)
 ·refine fin ?_
  have:=of_decide_eq_false b1
  rw[List.drop_of_length_le (by omega)];rfl
