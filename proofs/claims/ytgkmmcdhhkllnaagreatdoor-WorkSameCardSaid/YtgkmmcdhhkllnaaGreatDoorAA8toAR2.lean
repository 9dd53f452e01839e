import Derived.Test.YtgkmmcdhhkllnaaGreatDoorAN2toAA7
import Derived.Test.YtgkmmcdhhkllnaaGreatDoorSB
import Derived.Test.YtgkmmcdhhkllnaaGreatDoorAI4toKS9
set_option linter.all false
set_option autoImplicit true
set_option relaxedAutoImplicit true
set_option maxRecDepth 100000
namespace Go.Proofs.YtgkmmcdhhkllnaaGreatDoor.AL
noncomputable section
section
def upd (f:Str→Option Int) (k:Str) (v:Int):Str→Option Int:=fun x=>if x=k then some v else f x
structure FillInv (g:Int→Int) (kvs:KV) (sn:List Nat) (kv:KV):Prop where
 nd:(bQ kv).Nodup
 snd:sn.Nodup
 lt:∀ q∈sn,q<kvs.length
 at_:∀ k,bw k kv=if ∃ q∈sn,(bQ kvs)[q]?=some k then (bw k kvs).map g else none
theorem FillInv.start {g:Int→Int}{kvs:KV}:FillInv g kvs [] []:=⟨by simp[bQ],by simp,by simp,by simp[bw]⟩
theorem FillInv.step {g:Int→Int}{kvs kv:KV}{sn:List Nat}(I:FillInv g kvs sn kv) (nd:(bQ kvs).Nodup) {q:Nat}(hq:q<kvs.length) (hn:q∉sn):FillInv g kvs (sn++[q]) (putA kvs[q].1 (g kvs[q].2) kv) where
 nd:=qI I.nd
 snd:=by
  rw[List.nodup_append]
  exact⟨I.snd,by simp,fun a ha b hb e=>by simp at hb;subst hb;subst e;exact hn ha⟩
 lt:=by
  intro x hx
  simp only[List.mem_append,List.mem_singleton]at hx
  rcases hx with hx|rfl
  ·exact I.lt x hx
  ·exact hq
 at_:=by
  intro k
  rw[nB]
  have hkq:(bQ kvs)[q]?=some kvs[q].1:=by simp[bQ,hq]
  by_cases hk:k=kvs[q].1
  ·subst hk
   rw[if_pos rfl,if_pos ⟨q,by simp,hkq⟩]
   have hl:bw kvs[q].1 kvs=some kvs[q].2:=(Ln nd).2 (List.getElem_mem hq)
   rw[hl];rfl
  ·rw[if_neg hk,I.at_ k]
   have:(∃ x∈sn++[q],(bQ kvs)[x]?=some k)↔∃ x∈sn,(bQ kvs)[x]?=some k:=by
    constructor
    ·rintro ⟨x,hx,he⟩
     simp only[List.mem_append,List.mem_singleton]at hx
     rcases hx with hx|rfl
     ·exact⟨x,hx,he⟩
     ·rw[hkq]at he;exact (hk (Option.some.inj he).symm).elim
    ·rintro ⟨x,hx,he⟩
     exact⟨x,by simp[hx],he⟩
   simp only[this]
theorem FillInv.done {g:Int→Int}{kvs kv:KV}{sn:List Nat}(I:FillInv g kvs sn kv) (hall:∀ q,q<kvs.length→q∈sn) (k:Str):bw k kv=(bw k kvs).map g:=by
 rw[I.at_ k]
 split
 ·rfl
 ·rename_i hn
  have:bw k kvs=none:=by
   rw[A9]
   intro hk
   obtain⟨q,hq,e⟩:=List.getElem_of_mem hk
   exact hn ⟨q,hall q (by simpa [bQ] using hq),by rw[List.getElem?_eq_getElem hq,e]⟩
  rw[this];rfl
theorem FillInv.less {g:Int→Int}{kvs kv:KV}{sn:List Nat}(I:FillInv g kvs sn kv) {q:Nat}(hq:q<kvs.length) (hn:q∉sn):sn.length<kvs.length:=by
 have hnd:(sn++[q]).Nodup:=by
  rw[List.nodup_append]
  exact⟨I.snd,by simp,fun a ha b hb e=>by simp at hb;subst hb;subst e;exact hn ha⟩
 have:=hnd.length_le_of_subset (l₂:=List.range kvs.length) (fun x hx=>List.mem_range.2 (by
  simp only[List.mem_append,List.mem_singleton]at hx
  rcases hx with hx|rfl
  ·exact I.lt x hx
  ·exact hq))
 simp at this;omega
def qr (e:En):List Str:=e.x.2.lab::(if e.x.2.kind=9 then [e.x.2.text] else [])
abbrev TwS:=(Str→Option Int)×List Dg
def twN (e:En) (st:TwS) (n:Str):TwS:=
 if n=[] then st else (upd st.1 n ((st.1 n).getD 0+1),if 0<(st.1 n).getD 0 then st.2++[(e.frag,e.x.1,2)] else st.2)
def twE (st:TwS) (e:En):TwS:=(qr e).foldl (twN e) st
def tw0 (f:Str→Option Int):TwS:=(fun k=>(f k).map fun _=>1,[])
def A4 (f:Str→Option Int) (es:List En):List Dg:=(es.foldl twE (tw0 f)).2
def TwB (st:TwS) (b:Nat):Prop:=st.2.length≤b∧∀ k,0≤(st.1 k).getD 0∧(st.1 k).getD 0≤1+b
theorem TwB.step {st:TwS}{b:Nat}(h:TwB st b) (e:En) (n:Str):TwB (twN e st n) (b+1):=by
 unfold twN
 split
 ·exact⟨by have:=h.1;omega,fun k=>by have:=h.2 k;omega⟩
 ·refine⟨?_,fun k=>?_⟩
  ·have:=h.1
   simp only
   split
   ·simp;omega
   ·omega
  ·have:=h.2 k
   have:=h.2 n
   simp only[upd]
   split
   ·simp;omega
   ·omega
section
variable [Tabs]
variable {h0 h h':ae}{M:List Nat}{Q:QT}{K:AV→Prop}
variable {i js:Nat}{l:List (Nat×En)}{ds:List Dg}{lv dv kn:AV}{sz:Int}{kvs:KV}{EL ED R:Own}
theorem SS.memR {e:Nat×Bool×AObj}(h:e∈R):e∈(ED++((i,true,eS lv js kn dv sz)::(js,true,bG kvs)::(EL++(cz l++R)))):=
 List.mem_append_right _ (.tail _ (.tail _ (List.mem_append_right _ (List.mem_append_right _ h))))
theorem SS.back {e:Nat×Bool×AObj}(s:SS h0 M h i js l ds lv dv kn sz kvs EL ED (e::R)):St h0 M h (e::(ED++((i,true,eS lv js kn dv sz)::(js,true,bG kvs)::(EL++(cz l++R))))):=s.st.perm (by
 have hx:∀ R:Own,(ED++((i,true,eS lv js kn dv sz)::(js,true,bG kvs)::(EL++(cz l++R))))=(ED++((i,true,eS lv js kn dv sz)::(js,true,bG kvs)::(EL++cz l)))++R:=fun R=>by simp
 rw[hx R,hx (e::R)]
 exact List.perm_middle)
def chD (f:Str→Option Int) (es:List En) (e:En):List Dg:=if IT f es e≠0 then [(e.frag,e.x.1,IT f es e)] else []
theorem Ul (f:Str→Option Int) (es:List En) (e:En):(chD f es e).length≤1:=by unfold chD;split<;>simp
theorem wH {β:Type}(g:En→List β) {l:List (Nat×En)}{q:Nat}(hq:q<l.length):((l.take (q+1)).map (·.2)).flatMap g=((l.take q).map (·.2)).flatMap g++g l[q].2:=by
 rw[List.take_succ_eq_append_getElem hq,List.map_append,List.flatMap_append,List.map_cons,List.map_nil,List.flatMap_cons,List.flatMap_nil,List.append_nil]
theorem Ym (hF:cB) (hL:dJ) {f:Str→Option Int}{jk:Nat}{kvk:KV}(hl:l.length<10000000) (s:SS h0 M h i js l ds lv dv (.map jk) sz kvs EL ED R) (hds:ds=[]) (hk:(jk,true,bG kvk)∈R) (nd:(bQ kvk).Nodup) (hf:∀ k,bw k kvk=f k) (w:∀ x∈l,PlE x.2)
  (k:∀ dv' ED' h',SS h0 M h' i js l ((l.map (·.2)).flatMap (chD f (l.map (·.2)))) lv dv' (.map jk) sz kvs EL ED' R→Q (.tup []) h'):C cq [.ptr i 0] h Q:=by
 subst hds
 refine yZ _ _ _ ?_
 unfold un
 have si:=St.startr s.src
 (repeat (first|refine au ?_|refine aj ?_|refine ag ‹_› (.head _) rfl ?_))
 refine s.row.len ?_
 clear si
 refine aO (fun n vs h'=>∃ (q:Nat) (dv':AV) (ED':Own),vs=[I (q:Nat)]∧n+q=l.length∧SS h0 M h' i js l (((l.take q).map (·.2)).flatMap (chD f (l.map (·.2)))) lv dv' (.map jk) sz kvs EL ED' R) l.length ⟨0,dv,ED,rfl,by omega,s⟩ ?_
 rintro n vs h1 ⟨q,dv1,ED1,rfl,hn,s1⟩
 have hdl:=ue (Ul f (l.map (·.2))) ((l.take q).map (·.2))
 rw[List.length_map,List.length_take]at hdl
 unfold px
 (repeat refine aJ ?_)
 refine ah (fun hq=>?_) (fun hq=>?_)<;>simp only[za,zb,zc,zd,ze,zf,zg,zh,zi,u8i,zj,zk,zl]at hq
 ·have hq:q<l.length:=hq
  have hm:=List.getElem_mem hq
  have hsucc:=wH (chD f (l.map (·.2))) hq
  refine s1.row.idx (fun _=>rfl) hq fun p t=>?_
  refine aK t ?_
  refine ZK hF hL (s1.ent _ hm) (w _ hm) s1.src ⟨kvk,s1.rget hk,nd,hf⟩ (by omega) s1.row s1.ent fun h2 f2=>?_
  have s2:=s1.call f2
  refine cc ?_
  refine ah (fun hb=>?_) (fun hb=>?_)<;>simp only[za,zb,zc,zd,ze,zf,zg,zh,zi,u8i,zj,zk,zl]at hb
  ·have sp2:=St.startr (s2.ent _ hm)
   unfold enE at sp2
   (repeat (first|refine au ?_|refine aj ?_|refine ag ‹_› (.head _) rfl ?_))
   refine CJ (by omega) s2 fun dv' ED' h3 s3=>?_
   unfold gO kT
   refine aI (by omega) ?_
   refine⟨n-1,by omega,q+1,dv',ED',rfl,by omega,?_⟩
   rw[hsucc,chD,if_pos hb];exact s3
  ·unfold gO kT
   refine aI (by omega) ?_
   refine⟨n-1,by omega,q+1,dv1,ED1,rfl,by omega,?_⟩
   rw[hsucc,chD,if_neg (by simpa using hb)];simpa using s2
 ·have hq:q=l.length:=by omega
  subst hq
  rw[List.take_length]at s1
  exact k dv1 ED1 h1 s1
theorem abn {sz bytes n m:Nat}{x:AV}{as1 cs:List AV}{L:Own}{KH:QT}(s:St h0 M h L) (r:Rd h sz x m cs) (ha:as1.length=n*sz) (hm:0<m) (hb:(n+m)*bytes≤1099511627776) (k1:∀ i h',St h0 M h' ((i,true,.cells (as1++cs))::L)→KH (.sl i 0 (n+m) sz) h'):
  bh sz bytes (.full n as1) x h KH:=⟨by
 simp only[ew,r.2]
 refine⟨⟨ha,hb⟩,?_⟩
 rw[if_neg (by omega)]
 exact k1 _ _ (s.push _)⟩
theorem GO {e:En}{p jm b:Nat}(hm:(p,e)∈l) (hb:b<100000000) (nm:List Str) (hnm:nm.length≤2) {nv:AV}(hrow:∀ h dv ds ED kv,SS h0 M h i js l ds lv dv kn sz kvs EL ED ((jm,true,bG kv)::R)→Row sE 1 h nv nm)
  {st:TwS} (hst:TwB st b) {kv:KV} (nd:(bQ kv).Nodup) (hf:∀ k,bw k kv=st.1 k) {q:Nat} (hq:q<1000000000) (s:SS h0 M h i js l st.2 lv dv kn sz kvs EL ED ((jm,true,bG kv)::R)) {next:NT}
  (k:∀ dv' ED' kv' h',TwB (nm.foldl (twN e) st) (b+nm.length)→(bQ kv').Nodup→(∀ k,bw k kv'=(nm.foldl (twN e) st).1 k)→SS h0 M h' i js l (nm.foldl (twN e) st).2 lv dv' kn sz kvs EL ED' ((jm,true,bG kv')::R)→next [I ((q+1:Nat):Int)] h'):
  gp nv (.ptr p 0) (I (q:Nat)) (.map jm) (.ptr i 0) h next:=by
 unfold gp
 refine (hrow _ _ _ _ _ s).len ?_
 refine aO (fun n vs h'=>∃ (t:Nat) (dv':AV) (ED':Own) (kv':KV),vs=[I (t:Nat)]∧n+t=nm.length∧TwB ((nm.take t).foldl (twN e) st) (b+t)∧(bQ kv').Nodup∧(∀ k,bw k kv'=((nm.take t).foldl (twN e) st).1 k)∧SS h0 M h' i js l ((nm.take t).foldl (twN e) st).2 lv dv' kn sz kvs EL ED' ((jm,true,bG kv')::R)) nm.length ⟨0,dv,ED,kv,rfl,by omega,hst,nd,hf,s⟩ ?_
 rintro n vs h1 ⟨t,dv1,ED1,kv1,rfl,hn,hb1,nd1,hf1,s1⟩
 unfold oP
 (repeat refine aJ ?_)
 refine ah (fun ht=>?_) (fun ht=>?_)<;>simp only[za,zb,zc,zd,ze,zf,zg,zh,zi,u8i,zj,zk,zl]at ht
 ·have ht:t<nm.length:=ht
  refine (hrow _ _ _ _ _ s1).idx (fun _=>rfl) ht fun p2 t2=>?_
  refine aK t2 ?_
  have hsucc:(nm.take (t+1)).foldl (twN e) st=twN e ((nm.take t).foldl (twN e) st) nm[t]:=by
   rw[List.take_succ_eq_append_getElem ht,List.foldl_append];rfl
  have hb2:=hb1.step e nm[t]
  generalize hst1:(nm.take t).foldl (twN e) st=st1 at hb1 hf1 s1 hsucc hb2 ⊢
  refine aU ?_
  refine ah (fun he=>?_) (fun he=>?_)<;>simp only[za,zb,zc,zd,ze,zf,zg,zh,zi,u8i,zj,zk,zl]at he
  ·unfold gK kS
   refine aI (by omega) ?_
   refine⟨n-1,by omega,t+1,dv1,ED1,kv1,rfl,by omega,?_⟩
   rw[hsucc]
   refine⟨by rw[Nat.add_assoc]at hb2;exact hb2,nd1,?_⟩
   rw[twN,if_pos he]
   exact⟨hf1,s1⟩
  ·have he:nm[t]≠[]:=he
   have hbk:=hb1.2 nm[t]
   have hbl:=hb1.1
   have mm:MapAt h1 jm st1.1:=⟨kv1,s1.rget (.head _),nd1,hf1⟩
   refine mm.look0 ?_
   have hj12:∀ dv2 ED2 h2,SS h0 M h2 i js l (if 0<(st1.1 nm[t]).getD 0 then st1.2++[(e.frag,e.x.1,2)] else st1.2) lv dv2 kn sz kvs EL ED2 ((jm,true,bG kv1)::R)→gd (T nm[t]) (I (t:Nat)) (.map jm) h2 (fun vs' h'=>∃ m,m<n∧∃ (t:Nat) (dv':AV) (ED':Own) (kv':KV),vs'=[I (t:Nat)]∧m+t=nm.length∧TwB ((nm.take t).foldl (twN e) st) (b+t)∧(bQ kv').Nodup∧(∀ k,bw k kv'=((nm.take t).foldl (twN e) st).1 k)∧SS h0 M h' i js l ((nm.take t).foldl (twN e) st).2 lv dv' kn sz kvs EL ED' ((jm,true,bG kv')::R)):=by
    intro dv2 ED2 h2 s2
    unfold gd
    have mm2:MapAt h2 jm st1.1:=⟨kv1,s2.rget (.head _),nd1,hf1⟩
    refine mm2.look0 ?_
    refine aI (by omega) ?_
    refine uF s2.st (SS.subR .head) fun h3 s3=>?_
    unfold gK kS
    refine aI (by omega) ?_
    refine⟨n-1,by omega,t+1,dv2,ED2,putA nm[t] ((st1.1 nm[t]).getD 0+1) kv1,rfl,by omega,?_⟩
    rw[hsucc]
    refine⟨by rw[Nat.add_assoc]at hb2;exact hb2,qI nd1,?_⟩
    rw[twN,if_neg he]
    exact⟨fun k=>by rw[nB,hf1];rfl,⟨s2.al,s2.ad,s3⟩⟩
   refine bL ?_
   refine ah (fun hg=>?_) (fun hg=>?_)<;>simp only[za,zb,zc,zd,ze,zf,zg,zh,zi,u8i,zj,zk,zl]at hg
   ·have sp:=St.startr (s1.ent _ hm)
    unfold enE at sp
    refine au (aj (ag sp (.head _) rfl (au (aj (aj (ag sp (.head _) rfl ?_))))))
    refine CJ (by omega) s1 fun dv' ED' h3 s3=>?_
    exact hj12 dv' ED' h3 (by rw[if_pos hg];exact s3)
   ·exact hj12 dv1 ED1 h1 (by rw[if_neg (by omega)];exact s1)
 ·have ht:t=nm.length:=by omega
  subst ht
  rw[List.take_length]at hb1 hf1 s1
  refine aI (by omega) ?_
  exact k dv1 ED1 kv1 h1 hb1 nd1 hf1 s1
theorem Y4 {f:Str→Option Int}(hl:l.length<10000000) (hds:ds=[]) (s:SS h0 M h i js l ds lv dv kn sz kvs EL ED R) (nd:(bQ kvs).Nodup) (hf:∀ k,bw k kvs=f k)
  (k:∀ dv' ED' h',SS h0 M h' i js l (A4 f (l.map (·.2))) lv dv' kn sz kvs EL ED' R→Q (.tup []) h'):C cr [.ptr i 0] h Q:=by
 subst hds
 refine zp _ _ _ ?_
 unfold uu
 refine qL s.st fun jm h1 s1=>?_
 have s1:=s.front s1
 have si:=St.startr s1.src
 (repeat (first|refine au ?_|refine aj ?_|refine ag ‹_› (.head _) rfl ?_))
 clear si
 refine J6 s1.st s1.syms fun it h2 s2=>?_
 have s2:=s1.front s2
 refine aO (fun n vs h'=>∃ (sn:List Nat) (kv:KV),vs=[]∧n+sn.length=kvs.length∧FillInv (fun _=>1) kvs sn kv∧SS h0 M h' i js l [] lv dv kn sz kvs EL ED ((it,true,J1 js kvs sn)::(jm,true,bG kv)::R)) kvs.length ⟨[],[],rfl,by simp,.start,s2⟩ ?_
 rintro n vs h3 ⟨sn,kv,rfl,hn,fi,s3⟩
 unfold o9
 refine Oa s3.back s3.syms (fun hall=>?_) (fun q hq hnq h4 s4=>?_)
 ·refine aG rfl (ah (fun h=>by cases h) (fun _=>?_))
  have hdone:=fi.done hall
  have s5:=s3.unR (List.sublist_cons_self _ _)
  have si:=St.startr s5.src
  (repeat (first|refine au ?_|refine aj ?_|refine ag ‹_› (.head _) rfl ?_))
  clear si
  refine s5.row.len ?_
  refine aO (fun n vs h'=>∃ (q:Nat) (dv':AV) (ED':Own) (kv':KV),vs=[I (q:Nat)]∧n+q=l.length∧TwB (((l.take q).map (·.2)).foldl twE (tw0 f)) (2*q)∧(bQ kv').Nodup∧(∀ k,bw k kv'=(((l.take q).map (·.2)).foldl twE (tw0 f)).1 k)∧SS h0 M h' i js l (((l.take q).map (·.2)).foldl twE (tw0 f)).2 lv dv' kn sz kvs EL ED' ((jm,true,bG kv')::R)) l.length ⟨0,dv,ED,kv,rfl,by omega,⟨by simp[tw0],fun k=>by simp[tw0];cases f k<;>simp⟩,fi.nd,fun k=>by rw[hdone,hf];rfl,s5⟩ ?_
  rintro n vs h6 ⟨q,dv1,ED1,kv1,rfl,hn,hb1,nd1,hf1,s6⟩
  unfold oE
  (repeat refine aJ ?_)
  refine ah (fun hq=>?_) (fun hq=>?_)<;>simp only[za,zb,zc,zd,ze,zf,zg,zh,zi,u8i,zj,zk,zl]at hq
  ·have hq:q<l.length:=hq
   have hm:=List.getElem_mem hq
   have hsucc:((l.take (q+1)).map (·.2)).foldl twE (tw0 f)=twE (((l.take q).map (·.2)).foldl twE (tw0 f)) l[q].2:=by
    rw[List.take_succ_eq_append_getElem hq,List.map_append,List.foldl_append];rfl
   generalize hst1:((l.take q).map (·.2)).foldl twE (tw0 f)=st1 at hb1 hf1 s6 hsucc
   refine s6.row.idx (fun _=>rfl) hq fun p t=>?_
   refine aK t ?_
   have sp:=St.startr (s6.ent _ hm)
   unfold enE at sp
   refine au (aj (aj (ag sp (.head _) rfl (aB rfl rfl (au (aj (aj (ag sp (.head _) rfl (aA ?_)))))))))
   have fin:∀ (nm:List Str) (dv' ED' kv' h'),nm=qr l[q].2→TwB (nm.foldl (twN l[q].2) st1) (2*q+nm.length)→(bQ kv').Nodup→(∀ k,bw k kv'=(nm.foldl (twN l[q].2) st1).1 k)→SS h0 M h' i js l (nm.foldl (twN l[q].2) st1).2 lv dv' kn sz kvs EL ED' ((jm,true,bG kv')::R)→nm.length≤2→
     (fun vs' h'=>∃ m,m<n∧∃ (q:Nat) (dv':AV) (ED':Own) (kv':KV),vs'=[I (q:Nat)]∧m+q=l.length∧TwB (((l.take q).map (·.2)).foldl twE (tw0 f)) (2*q)∧(bQ kv').Nodup∧(∀ k,bw k kv'=(((l.take q).map (·.2)).foldl twE (tw0 f)).1 k)∧SS h0 M h' i js l (((l.take q).map (·.2)).foldl twE (tw0 f)).2 lv dv' kn sz kvs EL ED' ((jm,true,bG kv')::R)) [I ((q+1:Nat):Int)] h':=by
    rintro nm dv' ED' kv' h' rfl hb' nd' hf' s' hl2
    refine⟨n-1,by omega,q+1,dv',ED',kv',rfl,by omega,?_⟩
    rw[hsucc]
    exact⟨⟨by have:=hb'.1;unfold twE;omega,fun k=>by have:=hb'.2 k;unfold twE;omega⟩,nd',hf',s'⟩
   refine ah (fun h9=>?_) (fun h9=>?_)<;>simp only[za,zb,zc,zd,ze,zf,zg,zh,zi,u8i,zj,zk,zl]at h9
   ·have h9:l[q].2.x.2.kind=9:=by omega
    have hnm:[l[q].2.x.2.lab,l[q].2.x.2.text]=qr l[q].2:=by rw[qr,if_pos h9]
    refine au (aj (aj (ag sp (.head _) rfl (aB rfl rfl ?_))))
    refine abn s6.st (Rd.full (n:=1) (cs:=[T l[q].2.x.2.text]) rfl) rfl (by decide) (by decide) fun jn h7 s7=>?_
    have s7:=s6.front s7
    have s8:SS h0 M h7 i js l st1.2 lv dv1 kn sz kvs EL ED1 ((jm,true,bG kv1)::(jn,true,.cells [T l[q].2.x.2.lab,T l[q].2.x.2.text])::R):=⟨s7.al,s7.ad,s7.st.perm (by
     refine List.Perm.append_left _ (List.Perm.cons _ (List.Perm.cons _ (List.Perm.append_left _ (List.Perm.append_left _ (List.Perm.swap _ _ _))))))⟩
    refine GO (e:=l[q].2) hm (b:=2*q) (by omega) [l[q].2.x.2.lab,l[q].2.x.2.text] (by simp) (fun h dv ds ED kv s=>?_) hb1 nd1 hf1 (by omega) s8 fun dv' ED' kv' h' b1 n1 f1 s9=>?_
    ·exact Row.sl (enc:=sE) (l:=[l[q].2.x.2.lab,l[q].2.x.2.text]) (fun _=>rfl) (s.rget (.tail _ (.head _)))
    ·refine fin _ dv' ED' kv' h' hnm b1 n1 f1 ⟨s9.al,s9.ad,?_⟩ (by simp)
     exact (s9.unR (.cons₂ _ (List.sublist_cons_self _ _))).st
   ·have hnm:[l[q].2.x.2.lab]=qr l[q].2:=by rw[qr,if_neg (by omega)]
    refine GO (e:=l[q].2) hm (b:=2*q) (by omega) [l[q].2.x.2.lab] (by simp) (fun h dv ds ED kv s=>?_) hb1 nd1 hf1 (by omega) s6 fun dv' ED' kv' h' b1 n1 f1 s9=>?_
    ·exact Row.full (enc:=sE) (fun _=>rfl) [l[q].2.x.2.lab]
    ·exact fin _ dv' ED' kv' h' hnm b1 n1 f1 s9 (by simp)
  ·have hq:q=l.length:=by omega
   subst hq
   rw[List.take_length]at s6
   exact k dv1 ED1 h6 (s6.unR (List.sublist_cons_self _ _))
 ·have s4:=(s3.unR (List.sublist_cons_self _ _)).front s4
  refine aG rfl (ah (fun _=>?_) (fun h=>by cases h))
  refine K9 s4.st (b:=true) (i:=it) (SS.memR (.head _)) s4.syms hq ?_
  refine aG rfl ?_
  refine uF s4.st (SS.subR (.tail .head)) fun h5 s5=>?_
  have hlt:=fi.less hq hnq
  exact⟨n-1,by omega,sn++[q],_,rfl,by simp;omega,fi.step nd hq hnq,⟨s4.al,s4.ad,s5⟩⟩
end
end
section
section
variable [Tabs]
def uV (e:En) (a:Int):En:=⟨e.frag,e.x,a,e.grown⟩
def nU (syms:Str→Option Int) (st:List En×Int) (e:En):List En×Int:=(st.1++[(uV e st.2)],st.2+pN syms (uV e st.2))
def c9 (syms:Str→Option Int) (es:List En):List En×Int:=es.foldl (nU syms) ([],0)
end
def abb (f:Str→Option Int) (e:En):Str→Option Int:=if e.x.2.lab≠[] then upd f e.x.2.lab e.place else f
def XS (f:Str→Option Int) (es:List En):Str→Option Int:=es.foldl abb f
abbrev EqS:=(Str→Option Int)×Bool
def eW (st:EqS) (e:En):EqS:=if e.x.2.kind=9∧st.1 e.x.2.text=none∧(bN e.place st.1 (bP e)).2=0 then (upd st.1 e.x.2.text (bN e.place st.1 (bP e)).1,true) else st
def p8 (es:List En) (f:Str→Option Int):EqS:=es.foldl eW (f,false)
def PG (es:List En):Nat→(Str→Option Int)→(Str→Option Int)
 | 0,f=>f
 | n+1,f=>if (p8 es f).2=true then PG es n (p8 es f).1 else (p8 es f).1
def aab (f:Str→Option Int) (e:En):Bool:=decide (e.x.2.kind=9)&&(f e.x.2.text).isNone
def und (es:List En) (f:Str→Option Int):Nat:=es.countP (aab f)
theorem De {α:Type}{p q:α→Bool}:∀ {l:List α},(∀ x∈l,p x=true→q x=true)→(∃ x∈l,q x=true∧p x=false)→l.countP p<l.countP q
 | [],_,⟨x,hx,_⟩=>by simp at hx
 | a::l,h1,⟨x,hx,hq,hp⟩=>by
   have hle:l.countP p≤l.countP q:=List.countP_mono_left fun y hy=>h1 y (.tail _ hy)
   rw[List.countP_cons,List.countP_cons]
   rcases List.mem_cons.1 hx with rfl|hx
   ·rw[hq,hp];simp;omega
   ·have:=De (fun y hy=>h1 y (.tail _ hy)) ⟨x,hx,hq,hp⟩
    have h3:=h1 a (.head _)
    cases hpa:p a with
    | true=>rw[h3 hpa];simp;omega
    | false=>simp only[Bool.false_eq_true,if_false];split<;>omega
theorem QR (st:EqS) (e:En) (k:Str) (h:(st.1 k).isSome=true):((eW st e).1 k).isSome=true:=by
 unfold eW
 split
 ·simp only[upd];split
  ·rfl
  ·exact h
 ·exact h
theorem wK (k:Str):∀ (es:List En) (st:EqS),(st.1 k).isSome=true→((es.foldl eW st).1 k).isSome=true
 | [],_,h=>h
 | e::es,st,h=>wK k es _ (QR st e k h)
theorem Gj:∀ (es:List En) (st:EqS),st.2=false→(es.foldl eW st).2=true→∃ e∈es,e.x.2.kind=9∧st.1 e.x.2.text=none∧((es.foldl eW st).1 e.x.2.text).isSome=true
 | [],st,h0,h=>by simp at h;rw[h0]at h;cases h
 | e::es,st,h0,h=>by
   rw[List.foldl_cons]at h ⊢
   by_cases hc:e.x.2.kind=9∧st.1 e.x.2.text=none∧(bN e.place st.1 (bP e)).2=0
   ·refine⟨e,.head _,hc.1,hc.2.1,wK _ es _ ?_⟩
    unfold eW;rw[if_pos hc];simp[upd]
   ·have:eW st e=st:=by unfold eW;rw[if_neg hc]
    rw[this]at h ⊢
    obtain⟨x,hx,h1⟩:=Gj es st h0 h
    exact⟨x,.tail _ hx,h1⟩
theorem QG {es:List En}{f:Str→Option Int}(h:(p8 es f).2=true):und es (p8 es f).1<und es f:=by
 obtain⟨e,he,h9,hn,hs⟩:=Gj es (f,false) rfl h
 refine De (fun x hx hp=>?_) ⟨e,he,?_,?_⟩
 ·unfold aab at hp ⊢
  simp only[Bool.and_eq_true]at hp ⊢
  refine⟨hp.1,?_⟩
  cases hf:f x.x.2.text with
  | none=>rfl
  | some v=>
    have:=wK x.x.2.text es (f,false) (by simp[hf])
    unfold p8 at hp
    simp only[Option.isNone_iff_eq_none]at hp
    rw[hp.2]at this;cases this
 ·unfold aab;simp only at hn;rw[hn];simp[h9]
 ·unfold aab
  unfold p8
  simp only[Bool.and_eq_false_iff]
  right
  cases hx:(List.foldl eW (f,false) es).1 e.x.2.text with
  | none=>rw[hx]at hs;cases hs
  | some v=>rfl
section
variable [Tabs]
def ko (syms:Str→Option Int) (es:List En):List En×(Str→Option Int)×Int:=
 ((c9 syms es).1,PG (c9 syms es).1 (es.length+1) (XS syms (c9 syms es).1),(c9 syms es).2)
theorem AB (syms:Str→Option Int):∀ (es:List En) (st:List En×Int),(es.foldl (nU syms) st).1.length=st.1.length+es.length
 | [],st=>by simp
 | e::es,st=>by rw[List.foldl_cons,AB syms es];simp[nU];omega
variable {h0 h h':ae}{M:List Nat}{Q:QT}{K:AV→Prop}
variable {i js:Nat}{l:List (Nat×En)}{ds:List Dg}{lv dv kn:AV}{sz:Int}{kvs:KV}{EL ED R:Own}
theorem acg {jk:Nat}{f F:Str→Option Int}{kv:KV}(hl:l.length<10000000) (w:∀ x∈l,WfS x.2.x.2) (nd:(bQ kv).Nodup) (hf:∀ k,bw k kv=f k) (hF:F=PG (l.map (·.2)) (l.length+1) f) (s:SS h0 M h i js l ds lv dv (.map jk) sz kvs EL ED ((jk,true,bG kv)::R))
  (k:∀ kv' h',(bQ kv').Nodup→(∀ k,bw k kv'=F k)→SS h0 M h' i js l ds lv dv (.map jk) sz kvs EL ED ((jk,true,bG kv')::R)→Q (.tup []) h'):
  bW [(B true)] h fun vs12 h next12=>iM (.ptr i 0) Q vs12 h next12:=by
 generalize hes:l.map (·.2)=es at hF
 refine aO (fun n vs h'=>∃ (f:Str→Option Int) (kv:KV),(bQ kv).Nodup∧(∀ k,bw k kv=f k)∧SS h0 M h' i js l ds lv dv (.map jk) sz kvs EL ED ((jk,true,bG kv)::R)∧((vs=[B true]∧und es f<n∧PG es n f=F)∨(vs=[B false]∧f=F))) (l.length+1) ⟨f,kv,nd,hf,s,.inl ⟨rfl,?_,hF.symm⟩⟩ ?_
 ·have:und es f≤es.length:=List.countP_le_length
  rw[← hes,List.length_map]at this
  rw[← hes];omega
 rintro n vs h1 ⟨f1,kv1,nd1,hf1,s1,⟨rfl,hu,hfix⟩|⟨rfl,rfl⟩⟩
 ·unfold iM
  refine ah (fun _=>?_) (fun h=>by cases h)
  obtain⟨m,rfl⟩:∃ m,n=m+1:=⟨n-1,by omega⟩
  rw[PG]at hfix
  have si:=St.startr s1.src
  (repeat (first|refine au ?_|refine aj ?_|refine ag ‹_› (.head _) rfl ?_))
  clear si
  refine s1.row.len ?_
  refine aO (fun n2 vs h'=>∃ (q:Nat) (kv:KV),vs=[B ((es.take q).foldl eW (f1,false)).2,I (q:Nat)]∧n2+q=l.length∧(bQ kv).Nodup∧(∀ k,bw k kv=((es.take q).foldl eW (f1,false)).1 k)∧SS h0 M h' i js l ds lv dv (.map jk) sz kvs EL ED ((jk,true,bG kv)::R)) l.length ⟨0,kv1,rfl,by omega,nd1,hf1,s1⟩ ?_
  rintro n2 vs h2 ⟨q,kv2,rfl,hn,nd2,hf2,s2⟩
  unfold qQ
  (repeat refine aJ ?_)
  refine ah (fun hq=>?_) (fun hq=>?_)<;>simp only[za,zb,zc,zd,ze,zf,zg,zh,zi,u8i,zj,zk,zl]at hq
  ·have hq:q<l.length:=hq
   have hqe:q<es.length:=by rw[← hes];simpa using hq
   have heq:es[q]=l[q].2:=by subst hes;simp
   have hm:=List.getElem_mem hq
   have hw:=w _ hm
   have hsucc:(es.take (q+1)).foldl eW (f1,false)=eW ((es.take q).foldl eW (f1,false)) l[q].2:=by
    rw[List.take_succ_eq_append_getElem hqe,List.foldl_append,heq];rfl
   generalize hst:(es.take q).foldl eW (f1,false)=st at hf2 hsucc ⊢
   refine s2.row.idx (fun _=>rfl) hq fun p t=>?_
   refine aK t ?_
   have si:=St.startr s2.src
   have sp:=St.startr (s2.ent _ hm)
   unfold enE at sp
   refine au (aj (ag si (.head _) rfl (au (aj (aj (ag sp (.head _) rfl ?_))))))
   have mm:MapAt h2 jk st.1:=⟨kv2,s2.rget (.head _),nd2,hf2⟩
   refine mm.look ?_
   refine aG rfl (aG rfl (au (aj (aj (ag sp (.head _) rfl (cc ?_))))))
   have skip:eW st l[q].2=st→∀ h',SS h0 M h' i js l ds lv dv (.map jk) sz kvs EL ED ((jk,true,bG kv2)::R)→dh (B st.2) (I (q:Nat)) h' (fun vs' h'=>∃ m,m<n2∧∃ (q:Nat) (kv:KV),vs'=[B ((es.take q).foldl eW (f1,false)).2,I (q:Nat)]∧m+q=l.length∧(bQ kv).Nodup∧(∀ k,bw k kv=((es.take q).foldl eW (f1,false)).1 k)∧SS h0 M h' i js l ds lv dv (.map jk) sz kvs EL ED ((jk,true,bG kv)::R)):=by
    intro he h' s'
    unfold dh lJ
    refine aI (by omega) ?_
    refine⟨n2-1,by omega,q+1,kv2,?_⟩
    rw[hsucc,he]
    exact⟨rfl,by omega,nd2,hf2,s'⟩
   refine ah (fun h9=>?_) (fun h9=>?_)<;>simp only[za,zb,zc,zd,ze,zf,zg,zh,zi,u8i,zj,zk,zl]at h9
   ·exact skip (by unfold eW;rw[if_neg (fun hc=>by omega)]) h2 s2
   ·have h9:l[q].2.x.2.kind=9:=by omega
    cases hl:st.1 l[q].2.x.2.text with
    | some y=>
      refine ah (fun _=>?_) (fun h=>by cases h)
      exact skip (by unfold eW;rw[if_neg (fun hc=>by rw[hl]at hc;cases hc.2.1)]) h2 s2
    | none=>
      refine ah (fun h=>by cases h) (fun _=>?_)
      refine au (aj (ag sp (.head _) rfl (au (aj (ag si (.head _) rfl ?_)))))
      have hne:=hw.data (by omega) (by omega)
      have hlast:=yJ hw hne
      refine yN (s2.ent _ hm) hw hne fun h3 f3=>?_
      refine⟨ag (si.call f3) (.head _) rfl rfl,ag (sp.call f3) (.head _) rfl rfl,?_⟩
      refine qF hlast.1 hlast.2 _ (mm.fr f3) fun h4 f4=>?_
      have s4:=(s2.call f3).call f4
      refine aG rfl (aG rfl (aA ?_))
      refine ah (fun he=>?_) (fun he=>?_)<;>simp only[za,zb,zc,zd,ze,zf,zg,zh,zi,u8i,zj,zk,zl]at he
      ·have si4:=St.startr s4.src
       have sp4:=St.startr (s4.ent _ hm)
       unfold enE at sp4
       refine au (aj (ag si4 (.head _) rfl (au (aj (aj (ag sp4 (.head _) rfl ?_))))))
       refine WY s4.st (by rw[hf2];exact hl) (SS.subR .head) fun h5 s5=>?_
       unfold dh lJ
       refine aI (by omega) ?_
       refine⟨n2-1,by omega,q+1,putA l[q].2.x.2.text (bN l[q].2.place st.1 (bP l[q].2)).1 kv2,?_⟩
       rw[hsucc,eW,if_pos ⟨h9,hl,he⟩]
       exact⟨rfl,by omega,qI nd2,fun k=>by rw[nB,hf2];rfl,⟨s4.al,s4.ad,s5⟩⟩
      ·exact skip (by unfold eW;rw[if_neg (fun hc=>he hc.2.2)]) h4 s4
  ·have hql:es.length≤q:=by rw[← hes,List.length_map];omega
   rw[List.take_of_length_le hql]at hf2 ⊢
   have hr:p8 es f1=es.foldl eW (f1,false):=rfl
   rw[← hr]at hf2 ⊢
   cases hmore:(p8 es f1).2 with
   | true=>
     rw[if_pos hmore]at hfix
     have:=QG hmore
     exact⟨m,by omega,_,kv2,nd2,hf2,s2,.inl ⟨rfl,by omega,hfix⟩⟩
   | false=>
     rw[if_neg (by rw[hmore];simp)]at hfix
     exact⟨0,by omega,_,kv2,nd2,hf2,s2,.inr ⟨rfl,hfix⟩⟩
 ·unfold iM
  refine ah (fun h=>by cases h) (fun _=>?_)
  exact k kv1 h1 nd1 hf1 s1
end
end
section
section
variable [Tabs]
variable {h0 h h':ae}{M:List Nat}{Q:QT}{K:AV→Prop}
variable {i js:Nat}{l:List (Nat×En)}{ds:List Dg}{lv dv kn:AV}{sz:Int}{kvs:KV}{EL ED R:Own}
theorem SzOk.place {f:Str→Option Int}{e:En}(h:SzOk f e) (at_:Int):SzOk f (uV e at_):=h
theorem xE (syms:Str→Option Int) {es:List En}{q:Nat}(hq:q<es.length):c9 syms (es.take (q+1))=nU syms (c9 syms (es.take q)) es[q]:=by
 unfold c9
 rw[List.take_succ_eq_append_getElem hq,List.foldl_append];rfl
theorem D5 {syms:Str→Option Int}{es:List En}(w:∀ e∈es,WfS e.x.2) (hs:∀ e∈es,SzOk syms e):∀ q,q≤es.length→0≤(c9 syms (es.take q)).2∧(c9 syms (es.take q)).2≤4000000000*(q:Int)
 | 0,_=>by simp[c9]
 | q+1,hq=>by
   have ih:=D5 w hs q (by omega)
   have hq:q<es.length:=by omega
   rw[xE syms hq]
   have hm:=List.getElem_mem hq
   have:=xd (f:=syms) (e:=(uV es[q] (c9 syms (es.take q)).2)) (w es[q] hm) (SzOk.place (hs es[q] hm) _) ih.1
   simp only[nU];omega
theorem D3 {syms:Str→Option Int}{es:List En}(w:∀ e∈es,WfS e.x.2) (hs:∀ e∈es,SzOk syms e):∀ q,q≤es.length→∀ e∈(c9 syms (es.take q)).1,(∃ e0∈es,e.x=e0.x∧e.frag=e0.frag∧e.grown=e0.grown)∧0≤e.place∧e.place≤4000000000*(q:Int)
 | 0,_,e,he=>by simp[c9]at he
 | q+1,hq,e,he=>by
   have hq:q<es.length:=by omega
   have hin:=D5 w hs q (by omega)
   rw[xE syms hq]at he
   simp only[nU,List.mem_append,List.mem_singleton]at he
   rcases he with he|rfl
   ·have:=D3 w hs q (by omega) e he
    exact⟨this.1,this.2.1,by omega⟩
   ·exact⟨⟨es[q],List.getElem_mem hq,rfl,rfl,rfl⟩,hin.1,by simp only[uV];omega⟩
theorem ZW (hl:l.length<100000) {f:Str→Option Int}{jk:Nat}{kv0:KV}(nds:(bQ kvs).Nodup) (hfs:∀ k,bw k kvs=f k) (w:∀ x∈l,WfS x.2.x.2) (hs:∀ x∈l,SzOk f x.2) (nd0:(bQ kv0).Nodup) (hf0:∀ k,bw k kv0=f k)
  (s:SS h0 M h i js l ds lv dv (.map jk) sz kvs EL ED ((jk,true,bG kv0)::R))
  (k:∀ l' kv' h',l'.map (·.1)=l.map (·.1)→l'.map (·.2)=(ko f (l.map (·.2))).1→(bQ kv').Nodup→(∀ k,bw k kv'=(ko f (l.map (·.2))).2.1 k)→SS h0 M h' i js l' ds lv dv (.map jk) (ko f (l.map (·.2))).2.2 kvs EL ED ((jk,true,bG kv')::R)→Q (.tup []) h'):
  bW [(I 0),(I 0)] h fun vs6 h next6=>lM (I (l.length:Nat)) lv (.ptr i 0) Q vs6 h next6:=by
 generalize hes:l.map (·.2)=es at k
 have hel:es.length=l.length:=by rw[← hes];simp
 have wes:∀ e∈es,WfS e.x.2:=by
  intro e he;rw[← hes,List.mem_map]at he;obtain⟨x,hx,rfl⟩:=he;exact w x hx
 have ses:∀ e∈es,SzOk f e:=by
  intro e he;rw[← hes,List.mem_map]at he;obtain⟨x,hx,rfl⟩:=he;exact hs x hx
 refine aO (fun n vs h'=>∃ (q:Nat) (l':List (Nat×En)) (kv:KV),vs=[I (c9 f (es.take q)).2,I (q:Nat)]∧n+q=l.length∧l'.map (·.1)=l.map (·.1)∧l'.map (·.2)=(c9 f (es.take q)).1++es.drop q∧(bQ kv).Nodup∧(∀ k,bw k kv=XS f (c9 f (es.take q)).1 k)∧SS h0 M h' i js l' ds lv dv (.map jk) sz kvs EL ED ((jk,true,bG kv)::R)) l.length ⟨0,l,kv0,rfl,by omega,rfl,by rw[hes];rfl,nd0,hf0,s⟩ ?_
 rintro n vs h1 ⟨q,l1,kv1,rfl,hn,hp1,he1,nd1,hf1,s1⟩
 have hl1:l1.length=l.length:=by simpa using congrArg List.length hp1
 have hpl:=AB f (es.take q) ([],0)
 have hpl:(c9 f (es.take q)).1.length=q:=by
  unfold c9;rw[hpl,List.length_take];simp;omega
 unfold lM
 (repeat refine aJ ?_)
 refine ah (fun hq=>?_) (fun hq=>?_)<;>simp only[za,zb,zc,zd,ze,zf,zg,zh,zi,u8i,zj,zk,zl]at hq
 ·have hq:q<l1.length:=by omega
  have hqe:q<es.length:=by omega
  have hq0:q<l.length:=by omega
  have hm:=List.getElem_mem hq
  have hin:=D5 wes ses q (by omega)
  have hsucc:=xE f hqe
  have hent:l1[q].2=es[q]:=by
   have:(l1.map (·.2))[q]?=some es[q]:=by
    rw[he1,List.getElem?_append_right (by omega),hpl];simp[hqe]
   rw[List.getElem?_map,List.getElem?_eq_getElem hq]at this
   simpa using this
  generalize hat:(c9 f (es.take q)).2=at_ at hin ⊢
  refine s1.row.idx (fun _=>rfl) hq fun p t=>?_
  refine aK t ?_
  refine au (aj ?_)
  refine ax (L':=ED++((i,true,eS lv js (.map jk) dv sz)::(js,true,bG kvs)::(EL++(cz (l1.set q (l1[q].1,(uV l1[q].2 at_)))++((jk,true,bG kv1)::R))))) (cs:=enE l1[q].2) s1.st (SS.subE hq (uV l1[q].2 at_)) rfl rfl rfl (nle rfl) fun h2 s2=>?_
  have s2:=s1.setE hq s2
  have hm2:(l1[q].1,(uV l1[q].2 at_))∈l1.set q (l1[q].1,(uV l1[q].2 at_)):=List.mem_set hq _
  have hmap1:(l1.set q (l1[q].1,(uV l1[q].2 at_))).map (·.1)=l.map (·.1):=by
   have h1:l1[q].1=(l1.map (·.1))[q]'(by simpa using hq):=by simp
   rw[List.map_set,h1,List.set_getElem_self];exact hp1
  have hmap2:(l1.set q (l1[q].1,(uV l1[q].2 at_))).map (·.2)=((c9 f (es.take q)).1++[(uV es[q] at_)])++es.drop (q+1):=by
   rw[List.map_set,he1,List.set_append_right _ _ (by omega),hpl,List.drop_eq_getElem_cons hqe,Nat.sub_self,List.set_cons_zero,hent,List.append_assoc]
   rfl
  have hw:WfS l1[q].2.x.2:=by rw[hent];exact wes _ (List.getElem_mem hqe)
  have hso:SzOk f (uV l1[q].2 at_):=by rw[hent];exact SzOk.place (ses _ (List.getElem_mem hqe)) _
  have hex:(uV l1[q].2 at_).x=l1[q].2.x:=rfl
  have hepl:(uV l1[q].2 at_).place=at_:=rfl
  have hpe:nU f (c9 f (es.take q)) es[q]=((c9 f (es.take q)).1++[(uV l1[q].2 at_)],at_+pN f (uV l1[q].2 at_)):=by rw[nU,hat,hent]
  rw[← hent]at hmap2
  generalize he2:(uV l1[q].2 at_)=e2 at s2 hm2 hmap1 hmap2 hso hex hepl hpe
  rw[← hex]at hw
  generalize hl2:l1.set q (l1[q].1,e2)=l2 at s2 hm2 hmap1 hmap2
  have sp:=St.startr (s2.ent _ hm2)
  unfold enE at sp
  have hj:∀ h3 kv3,(bQ kv3).Nodup→(∀ k,bw k kv3=abb (XS f (c9 f (es.take q)).1) e2 k)→SS h0 M h3 i js l2 ds lv dv (.map jk) sz kvs EL ED ((jk,true,bG kv3)::R)→im (.ptr l1[q].1 0) (I at_) (I (q:Nat)) (.ptr i 0) h3 (fun vs' h'=>∃ m,m<n∧∃ (q:Nat) (l':List (Nat×En)) (kv:KV),vs'=[I (c9 f (es.take q)).2,I (q:Nat)]∧m+q=l.length∧l'.map (·.1)=l.map (·.1)∧l'.map (·.2)=(c9 f (es.take q)).1++es.drop q∧(bQ kv).Nodup∧(∀ k,bw k kv=XS f (c9 f (es.take q)).1 k)∧SS h0 M h' i js l' ds lv dv (.map jk) sz kvs EL ED ((jk,true,bG kv)::R)):=by
   intro h3 kv3 nd3 hf3 s3
   unfold im
   refine TA (e:=e2) (s3.ent _ hm2) hw s3.src ⟨kvs,s3.syms,nds,hfs⟩ hso (by rw[hepl];omega) fun h4 f4=>?_
   have hlong:=xd (f:=f) (e:=e2) hw hso (by rw[hepl];exact hin.1)
   refine aI (by omega) ?_
   refine aI (by omega) ?_
   refine⟨n-1,by omega,q+1,l2,kv3,?_⟩
   rw[hsucc,hpe]
   refine⟨rfl,by omega,hmap1,?_,nd3,?_,s3.call f4⟩
   ·exact hmap2
   ·intro k;rw[hf3];simp only[XS,List.foldl_append,List.foldl_cons,List.foldl_nil]
  refine au (aj (aj (ag sp (.head _) rfl (pi ?_))))
  refine ah (fun hlab=>?_) (fun hlab=>?_)<;>simp only[za,zb,zc,zd,ze,zf,zg,zh,zi,u8i,zj,zk,zl]at hlab
  ·have si:=St.startr s2.src
   refine au (aj (ag si (.head _) rfl (au (aj (aj (ag sp (.head _) rfl ?_))))))
   refine uF s2.st (SS.subR .head) fun h3 s3=>?_
   refine hj h3 _ (qI nd1) (fun k=>?_) ⟨s2.al,s2.ad,s3⟩
   rw[nB,hf1,abb,if_pos (show e2.x.2.lab≠[] from hlab),hepl];rfl
  ·refine hj h2 kv1 nd1 (fun k=>?_) s2
   rw[hf1,abb,if_neg (by simpa using hlab)]
 ·have hq:q=l.length:=by omega
  subst hq
  rw[show es.take l.length=es by rw[← hel,List.take_length]]at he1 hf1 ⊢
  rw[show es.drop l.length=[] by rw[← hel,List.drop_length],List.append_nil]at he1
  refine au (aj ?_)
  refine ax (L':=ED++((i,true,eS lv js (.map jk) dv (c9 f es).2)::(js,true,bG kvs)::(EL++(cz l1++((jk,true,bG kv1)::R))))) (cs:=[lv,.map js,.map jk,dv,I sz]) s1.st SS.subS rfl rfl rfl (nle rfl) fun h2 s2=>?_
  have s2:SS h0 M h2 i js l1 ds lv dv (.map jk) (c9 f es).2 kvs EL ED ((jk,true,bG kv1)::R):=⟨s1.al,s1.ad,s2⟩
  refine acg (F:=(ko f es).2.1) (by omega) (fun x hx=>?_) nd1 hf1 ?_ s2 fun kv' h' nd' hf' s'=>?_
  ·have hx2:x.2∈(c9 f es).1:=by rw[← he1];exact List.mem_map.2 ⟨x,hx,rfl⟩
   have:=D3 wes ses es.length (Nat.le_refl _) x.2 (by rw[List.take_length];exact hx2)
   obtain⟨⟨e0,h0,h1,_⟩,_⟩:=this
   rw[h1];exact wes _ h0
  ·rw[he1,hl1,← hel];rfl
  ·exact k l1 kv' h' hp1 he1 nd' hf' s'
theorem Xz (hl:l.length<100000) {f:Str→Option Int}(nds:(bQ kvs).Nodup) (hfs:∀ k,bw k kvs=f k) (w:∀ x∈l,WfS x.2.x.2) (hs:∀ x∈l,SzOk f x.2)
  (s:SS h0 M h i js l ds lv dv kn sz kvs EL ED R)
  (k:∀ l' jk kv' h',l'.map (·.1)=l.map (·.1)→l'.map (·.2)=(ko f (l.map (·.2))).1→(bQ kv').Nodup→(∀ k,bw k kv'=(ko f (l.map (·.2))).2.1 k)→SS h0 M h' i js l' ds lv dv (.map jk) (ko f (l.map (·.2))).2.2 kvs EL ED ((jk,true,bG kv')::R)→Q (.tup []) h'):C jv [.ptr i 0] h Q:=by
 refine CD _ _ _ ?_
 unfold xt
 refine qL s.st fun jk h1 s1=>?_
 have s1:=s.front s1
 refine au (aj ?_)
 refine ax (L':=ED++((i,true,eS lv js (.map jk) dv sz)::(js,true,bG kvs)::(EL++(cz l++((jk,true,.amap [] 0)::R))))) (cs:=[lv,.map js,kn,dv,I sz]) s1.st SS.subS rfl rfl rfl (nle rfl) fun h2 s2=>?_
 have s2:SS h0 M h2 i js l ds lv dv (.map jk) sz kvs EL ED ((jk,true,bG [])::R):=⟨s.al,s.ad,s2⟩
 have si:=St.startr s2.src
 (repeat (first|refine au ?_|refine aj ?_|refine ag ‹_› (.head _) rfl ?_))
 clear si
 refine J6 s2.st s2.syms fun it h3 s3=>?_
 have s3:=s2.front s3
 refine aO (fun n vs h'=>∃ (sn:List Nat) (kv:KV),vs=[]∧n+sn.length=kvs.length∧FillInv (fun v=>v) kvs sn kv∧SS h0 M h' i js l ds lv dv (.map jk) sz kvs EL ED ((it,true,J1 js kvs sn)::(jk,true,bG kv)::R)) kvs.length ⟨[],[],rfl,by simp,.start,s3⟩ ?_
 rintro n vs h4 ⟨sn,kv,rfl,hn,fi,s4⟩
 unfold ra
 refine Oa s4.back s4.syms (fun hall=>?_) (fun q hq hnq h5 s5=>?_)
 ·refine aG rfl (ah (fun h=>by cases h) (fun _=>?_))
  have hdone:=fi.done hall
  have s5:=s4.unR (List.sublist_cons_self _ _)
  have si:=St.startr s5.src
  (repeat (first|refine au ?_|refine aj ?_|refine ag ‹_› (.head _) rfl ?_))
  clear si
  refine s5.row.len ?_
  refine ZW hl nds hfs w hs fi.nd (fun k=>by rw[hdone,hfs];cases f k<;>rfl) s5 fun l' kv' h' a b c d e=>k l' jk kv' h' a b c d e
 ·have s5:=(s4.unR (List.sublist_cons_self _ _)).front s5
  refine aG rfl (ah (fun _=>?_) (fun h=>by cases h))
  refine K9 s5.st (b:=true) (i:=it) (SS.memR (.head _)) s5.syms hq ?_
  have si:=St.startr s5.src
  (repeat (first|refine au ?_|refine aj ?_|refine aG rfl ?_|refine ag ‹_› (.head _) rfl ?_))
  clear si
  refine uF s5.st (SS.subR (.tail .head)) fun h6 s6=>?_
  have hlt:=fi.less hq hnq
  exact⟨n-1,by omega,sn++[q],_,rfl,by simp;omega,fi.step nds hq hnq,⟨s5.al,s5.ad,s6⟩⟩
end
end
section
section
variable [Tabs]
def rU (f:Str→Option Int) (e:En):Bool:=decide (e.x.2.kind=2)&&(!e.grown&&(decide ((bN e.place f (bP e)).2=0)&&!(np (kj 0) [(bN e.place f (bP e)).1-e.place]).isSome))
end
def V9 (e:En):En:=⟨e.frag,e.x,e.place,true⟩
def gX (x:Nat×En):Nat×En:=(x.1,V9 x.2)
def grF (p:Nat×En→Bool):Nat→List (Nat×En)→List (Nat×En)
 | 0,l=>l
 | _+1,[]=>[]
 | t+1,x::l=>if p x=true then gX x::grF p t l else x::grF p (t+1) l
theorem XV (p:Nat×En→Bool) (l:List (Nat×En)):grF p 0 l=l:=by cases l<;>simp[grF]
theorem Gp (p:Nat×En→Bool):∀ (l:List (Nat×En)) (t:Nat) (ht:t<(l.filter p).length),∃ q,∃ hq:q<(grF p t l).length,(grF p t l)[q]=(l.filter p)[t]∧grF p (t+1) l=(grF p t l).set q (gX (l.filter p)[t])
 | [],t,ht=>by simp at ht
 | x::l,t,ht=>by
   by_cases hp:p x=true
   ·cases t with
    | zero=>exact⟨0,by simp[grF],by simp[grF,hp],by simp[grF,hp]⟩
    | succ t=>
      have ht2:t<(l.filter p).length:=by simpa [List.filter_cons,hp] using ht
      obtain⟨q,hq,h1,h2⟩:=Gp p l t ht2
      refine⟨q+1,by simp[grF,hp];exact hq,?_,?_⟩
      ·simp[grF,hp,List.filter_cons,h1]
      ·simp[grF,hp,List.filter_cons,h2]
   ·have hf:(x::l).filter p=l.filter p:=by simp[List.filter_cons,hp]
    have ht2:t<(l.filter p).length:=by rw[hf]at ht;exact ht
    obtain⟨q,hq,h1,h2⟩:=Gp p l t ht2
    cases t with
    | zero=>
      refine⟨q+1,by simp[grF]at hq ⊢;exact hq,?_,?_⟩
      ·simp[grF,hf];simpa [grF] using h1
      ·simp[grF,hp,hf];simpa [grF] using h2
    | succ t=>
      refine⟨q+1,by simp[grF,hp];exact hq,?_,?_⟩
      ·simp[grF,hp,hf,h1]
      ·simp[grF,hp,hf];simpa [grF] using h2
theorem FU (p:Nat×En→Bool):∀ l:List (Nat×En),grF p (l.filter p).length l=l.map fun x=>if p x=true then gX x else x
 | []=>by simp[grF]
 | x::l=>by
   by_cases hp:p x=true
   ·simp[List.filter_cons,hp,grF,FU p l]
   ·have hf:(x::l).filter p=l.filter p:=by simp[List.filter_cons,hp]
    rw[hf,List.map_cons,if_neg hp]
    cases hn:(l.filter p).length with
    | zero=>
      have:=FU p l
      rw[hn]at this
      simp only[grF]at this ⊢
      rw[← this]
    | succ n=>
      have:=FU p l
      rw[hn]at this
      rw[grF,if_neg hp,this]
section
variable [Tabs]
def nl (f:Str→Option Int) (e:En):En:=if rU f e=true then V9 e else e
variable {h0 h h':ae}{M:List Nat}{Q:QT}{K:AV→Prop}
variable {i js:Nat}{l:List (Nat×En)}{ds:List Dg}{lv dv kn:AV}{sz:Int}{kvs:KV}{EL ED R:Own}
theorem SS.frontL {E:Own}(s':St h0 M h' (E++(ED++((i,true,eS lv js kn dv sz)::(js,true,bG kvs)::(EL++(cz l++R)))))) (s:SS h0 M h i js l ds lv dv kn sz kvs EL ED R):SS h0 M h' i js l ds lv dv kn sz kvs EL ED (E++R):=⟨s.al,s.ad,s'.perm (by
 have hx:∀ R:Own,(ED++((i,true,eS lv js kn dv sz)::(js,true,bG kvs)::(EL++(cz l++R))))=(ED++((i,true,eS lv js kn dv sz)::(js,true,bG kvs)::(EL++cz l)))++R:=fun R=>by simp
 rw[hx R,hx (E++R),← List.append_assoc,← List.append_assoc _ E]
 exact List.Perm.append_right _ List.perm_append_comm)⟩
theorem SS.backL {E:Own}(s:SS h0 M h i js l ds lv dv kn sz kvs EL ED (E++R)):St h0 M h (E++(ED++((i,true,eS lv js kn dv sz)::(js,true,bG kvs)::(EL++(cz l++R))))):=s.st.perm (by
 have hx:∀ R:Own,(ED++((i,true,eS lv js kn dv sz)::(js,true,bG kvs)::(EL++(cz l++R))))=(ED++((i,true,eS lv js kn dv sz)::(js,true,bG kvs)::(EL++cz l)))++R:=fun R=>by simp
 rw[hx R,hx (E++R)]
 exact List.perm_append_comm_assoc _ _ _)
theorem SS.unL {E:Own}(s:SS h0 M h i js l ds lv dv kn sz kvs EL ED (E++R)):SS h0 M h i js l ds lv dv kn sz kvs EL ED R:=s.unR (List.sublist_append_right _ _)
theorem XY:kj 0<tbl.length:=by decide
theorem abp (hF:cB) (hL:dJ) (hl:l.length<10000000) {f:Str→Option Int}{jk:Nat}{kv:KV}(nd:(bQ kv).Nodup) (hf:∀ k,bw k kv=f k) (w:∀ x∈l,PlE x.2)
  (s:SS h0 M h i js l ds lv dv (.map jk) sz kvs EL ED ((jk,true,bG kv)::R))
  (k:∀ h',SS h0 M h' i js (l.map fun x=>(x.1,nl f x.2)) ds lv dv (.map jk) sz kvs EL ED ((jk,true,bG kv)::R)→Q (B ((l.map (·.2)).any (rU f))) h'):C lH [.ptr i 0] h Q:=by
 refine A3 _ _ _ ?_
 unfold wc
 have si:=St.startr s.src
 (repeat (first|refine au ?_|refine aj ?_|refine ag ‹_› (.head _) rfl ?_))
 clear si
 refine s.row.len ?_
 let pB:Nat×En→Bool:=fun x=>rU f x.2
 refine aO (fun n vs h'=>∃ (q:Nat) (v:AV) (E:Own),vs=[v,I (q:Nat)]∧n+q=l.length∧AccE 1 v ((l.take q).filter pB).length (((l.take q).filter pB).flatMap pE) E∧SS h0 M h' i js l ds lv dv (.map jk) sz kvs EL ED (E++((jk,true,bG kv)::R))) l.length ⟨0,.full 0 [],[],rfl,by omega,.none 1,s⟩ ?_
 rintro n vs h1 ⟨q,v,E,rfl,hn,a,s1⟩
 unfold pH
 (repeat refine aJ ?_)
 refine ah (fun hq=>?_) (fun hq=>?_)<;>simp only[za,zb,zc,zd,ze,zf,zg,zh,zi,u8i,zj,zk,zl]at hq
 ·have hq:q<l.length:=hq
  have hm:=List.getElem_mem hq
  have hw:=w _ hm
  have hlo:=hw.lo
  have hhi:=hw.hi
  have hfl:((l.take q).filter pB).length≤q:=by
   have:=List.length_filter_le pB (l.take q)
   rw[List.length_take]at this;omega
  refine s1.row.idx (fun _=>rfl) hq fun p t=>?_
  refine aK t ?_
  have sp:=St.startr (s1.ent _ hm)
  have si:=St.startr s1.src
  unfold enE at sp
  have hno:pB l[q]=false→(l.take (q+1)).filter pB=(l.take q).filter pB:=fun hb=>by
   rw[List.take_succ_eq_append_getElem hq,List.filter_append];simp[hb]
  have hyes:pB l[q]=true→(l.take (q+1)).filter pB=(l.take q).filter pB++[l[q]]:=fun hb=>by
   rw[List.take_succ_eq_append_getElem hq,List.filter_append];simp[hb]
  have skip:pB l[q]=false→∀ h',SS h0 M h' i js l ds lv dv (.map jk) sz kvs EL ED (E++((jk,true,bG kv)::R))→cG v (I (q:Nat)) h' (fun vs' h'=>∃ m,m<n∧∃ (q:Nat) (v:AV) (E:Own),vs'=[v,I (q:Nat)]∧m+q=l.length∧AccE 1 v ((l.take q).filter pB).length (((l.take q).filter pB).flatMap pE) E∧SS h0 M h' i js l ds lv dv (.map jk) sz kvs EL ED (E++((jk,true,bG kv)::R))):=by
   intro hb h' s'
   unfold cG lN
   refine aI (by omega) ?_
   exact⟨n-1,by omega,q+1,v,E,rfl,by omega,by rw[hno hb];exact a,s'⟩
  refine au (aj (aj (ag sp (.head _) rfl (cc ?_))))
  refine ah (fun h2=>?_) (fun h2=>?_)<;>simp only[za,zb,zc,zd,ze,zf,zg,zh,zi,u8i,zj,zk,zl]at h2
  ·exact skip (by show rU f l[q].2=false;unfold rU;rw[show decide (l[q].2.x.2.kind=2)=false by simp;omega];rfl) h1 s1
  ·have h2:l[q].2.x.2.kind=2:=by omega
   refine au (aj (ag sp (.head _) rfl ?_))
   have hgb:pB l[q]=(!l[q].2.grown&&(decide ((bN l[q].2.place f (bP l[q].2)).2=0)&&!(np (kj 0) [(bN l[q].2.place f (bP l[q].2)).1-l[q].2.place]).isSome)):=by
    show rU f l[q].2=_
    unfold rU;rw[show decide (l[q].2.x.2.kind=2)=true by simpa using h2,Bool.true_and]
   cases hg:l[q].2.grown with
   | true=>exact ah (fun _=>skip (by rw[hgb,hg];rfl) h1 s1) (fun h=>by cases h)
   | false=>
     refine ah (fun h=>by cases h) (fun _=>?_)
     rw[hg,Bool.not_false,Bool.true_and]at hgb
     have hrd:0<l[q].2.x.2.args.length:=by
      have:=(hw.wf.grow h2).2.1
      have h3:∀ n,n<3→0<(cV (bq (kj n))).length:=by decide
      have:=h3 _ (hw.wf.grow h2).1
      omega
     have hne:l[q].2.x.2.args≠[]:=List.length_pos_iff.1 hrd
     have hlast:=yJ hw.wf hne
     refine au (aj (ag sp (.head _) rfl (au (aj (ag si (.head _) rfl ?_)))))
     refine yN (s1.ent _ hm) hw.wf hne fun h3 f3=>?_
     refine⟨ag (si.call f3) (.head _) rfl rfl,ag (sp.call f3) (.head _) rfl rfl,?_⟩
     have mm:MapAt h1 jk f:=⟨kv,s1.rget (List.mem_append_right _ (.head _)),nd,hf⟩
     refine qF hlast.1 hlast.2 _ (mm.fr f3) fun h4 f4=>?_
     have s4:=(s1.call f3).call f4
     have hin:=H9 l[q].2.place f (bP l[q].2)
     generalize bN l[q].2.place f (bP l[q].2)=ev at hgb hin ⊢
     refine aG rfl (aG rfl (aA ?_))
     refine ah (fun he=>?_) (fun he=>?_)<;>simp only[za,zb,zc,zd,ze,zf,zg,zh,zi,u8i,zj,zk,zl]at he
     ·rw[show decide (ev.2=0)=true by simpa using he,Bool.true_and]at hgb
      have sp4:=St.startr (s4.ent _ hm)
      unfold enE at sp4
      refine au (aj (ag sp4 (.head _) rfl (cC (by omega) (aB rfl rfl ?_))))
      refine Pp (n:=0) (by decide) fun h5 f5=>?_
      refine⟨ag (sp4.call f5) (.head _) rfl rfl,?_⟩
      refine aD rfl ?_
      have s5:=s4.call f5
      refine QW hF hL XY [ev.1-l[q].2.place] (by intro x hx;simp at hx;subst hx;unfold dW;omega) (Row.full (enc:=iE) (fun _=>rfl) [ev.1-l[q].2.place]) fun h6 f6=>?_
      have s6:=s5.call f6
      refine bi ?_
      cases hc:(np (kj 0) [ev.1-l[q].2.place]).isSome with
      | true=>exact ah (fun h=>by cases h) (fun _=>skip (by rw[hgb,hc];rfl) h6 s6)
      | false=>
        refine ah (fun _=>?_) (fun h=>by cases h)
        refine aB rfl rfl ?_
        have hb:pB l[q]=true:=by rw[hgb,hc];rfl
        refine a.app s6.backL (xs:=pE l[q]) (m:=1) (Rd.full rfl) rfl (by omega) fun v3 E3 h8 a3 s8=>?_
        unfold cG lN
        refine aI (by omega) ?_
        refine⟨n-1,by omega,q+1,v3,E3,rfl,by omega,?_,SS.frontL s8 s6.unL⟩
        rw[hyes hb];simpa using a3
     ·exact skip (by rw[hgb,show decide (ev.2=0)=false by simpa using he];rfl) h4 s4
 ·have hq:q=l.length:=by omega
  subst hq
  rw[List.take_length]at a
  have hflen:(l.filter pB).length≤l.length:=List.length_filter_le _ _
  have rowF:∀ h l',SS h0 M h i js l' ds lv dv (.map jk) sz kvs EL ED (E++((jk,true,bG kv)::R))→Row pE 1 h v (l.filter pB):=fun h l' s=>a.rd s.backL
  refine (rowF _ _ s1).len ?_
  have hany:(l.map (·.2)).any (rU f)=decide (0<(l.filter pB).length):=by
   rw[List.any_map,Bool.eq_iff_iff,decide_eq_true_eq,List.any_eq_true]
   constructor
   ·rintro ⟨x,hx,hp⟩;exact List.length_pos_of_mem (List.mem_filter.2 ⟨hx,hp⟩)
   ·intro hp
    obtain⟨x,hx⟩:=List.exists_mem_of_length_pos hp
    rw[List.mem_filter]at hx
    exact⟨x,hx.1,hx.2⟩
  rw[hany]at k
  have hall:(l.map fun x=>(x.1,nl f x.2))=grF pB (l.filter pB).length l:=by
   rw[FU]
   apply List.map_congr_left
   intro x _
   unfold nl
   show _=if rU f x.2=true then _ else _
   split<;>rfl
  rw[hall]at k
  refine aO (fun n vs h'=>∃ (t:Nat),vs=[I (t:Nat)]∧n+t=(l.filter pB).length∧SS h0 M h' i js (grF pB t l) ds lv dv (.map jk) sz kvs EL ED (E++((jk,true,bG kv)::R))) (l.filter pB).length ⟨0,rfl,by omega,by rw[XV];exact s1⟩ ?_
  rintro n2 vs h2 ⟨t,rfl,hn2,s2⟩
  unfold pC
  (repeat refine aJ ?_)
  refine ah (fun ht=>?_) (fun ht=>?_)<;>simp only[za,zb,zc,zd,ze,zf,zg,zh,zi,u8i,zj,zk,zl]at ht
  ·have ht:t<(l.filter pB).length:=ht
   refine (rowF _ _ s2).idx (fun _=>rfl) ht fun p2 t2=>?_
   refine aK t2 ?_
   obtain⟨q,hq,h1q,h2q⟩:=Gp pB l t ht
   rw[← h1q]at h2q ⊢
   refine au (aj ?_)
   refine ax (L':=ED++((i,true,eS lv js (.map jk) dv sz)::(js,true,bG kvs)::(EL++(cz ((grF pB t l).set q ((grF pB t l)[q].1,V9 (grF pB t l)[q].2))++(E++((jk,true,bG kv)::R)))))) (cs:=enE (grF pB t l)[q].2) s2.st (SS.subE hq (V9 (grF pB t l)[q].2)) rfl rfl rfl (nle rfl) fun h3 s3=>?_
   have s3:=s2.setE hq s3
   refine aI (by omega) ?_
   refine⟨n2-1,by omega,t+1,rfl,by omega,?_⟩
   rw[h2q];exact s3
  ·have ht:t=(l.filter pB).length:=by omega
   rw[ht]at s2
   refine (rowF _ _ s2).len ?_
   refine bL ?_
   rw[show decide ((0:Int)<((l.filter pB).length:Nat))=decide (0<(l.filter pB).length) by simp]
   exact k h2 s2.unL
end
end
section
section
variable [Tabs]
abbrev Pl:=List En×(Str→Option Int)×Int
def mC (f:Str→Option Int):Nat→List En→Pl
 | 0,es=>ko f es
 | n+1,es=>if (ko f es).1.any (rU (ko f es).2.1)=true then mC f n ((ko f es).1.map (nl (ko f es).2.1)) else ko f es
def unG (e:En):Bool:=decide (e.x.2.kind=2)&&!e.grown
theorem F5 (f:Str→Option Int) (e:En):(nl f e).x=e.x∧(nl f e).frag=e.frag∧(nl f e).place=e.place:=by unfold nl;split<;>exact⟨rfl,rfl,rfl⟩
theorem Hi (syms:Str→Option Int):∀ (es:List En) (st:List En×Int),((es.foldl (nU syms) st).1).countP unG=st.1.countP unG+es.countP unG
 | [],st=>by simp
 | e::es,st=>by
   rw[List.foldl_cons,Hi syms es,List.countP_cons]
   simp only[nU,List.countP_append,List.countP_cons,List.countP_nil]
   have:unG (uV e st.2)=unG e:=rfl
   rw[this];omega
theorem Lh {f:Str→Option Int}{es:List En}(h:es.any (rU f)=true):(es.map (nl f)).countP unG<es.countP unG:=by
 rw[List.countP_map]
 refine De (fun e he hp=>?_) ?_
 ·simp only[Function.comp]at hp
  unfold nl at hp
  split at hp
  ·simp[unG,V9]at hp
  ·exact hp
 ·rw[List.any_eq_true]at h
  obtain⟨e,he,hg⟩:=h
  refine⟨e,he,?_,?_⟩
  ·unfold rU at hg;unfold unG
   simp only[Bool.and_eq_true]at hg ⊢
   exact⟨hg.1,hg.2.1⟩
  ·simp only[Function.comp]
   unfold nl;rw[if_pos hg];simp[unG,V9]
theorem aa1 {f:Str→Option Int}{es:List En}(h:es.any (rU f)=true):0<es.countP unG:=by
 have:=Lh h;omega
variable {h0 h h':ae}{M:List Nat}{Q:QT}{K:AV→Prop}
variable {i js:Nat}{l:List (Nat×En)}{ds:List Dg}{lv dv kn:AV}{sz:Int}{kvs:KV}{EL ED R:Own}
theorem S3 {f:Str→Option Int}{es:List En}(hl:es.length<100000) (w:∀ e∈es,WfS e.x.2) (hs:∀ e∈es,SzOk f e):∀ e∈(ko f es).1,PlE e∧SzOk f e:=by
 intro e he
 have:=D3 w hs es.length (Nat.le_refl _) e (by rw[List.take_length];exact he)
 obtain⟨⟨e0,h0,h1,h2,h3⟩,h4,h5⟩:=this
 refine⟨⟨by rw[h1];exact w _ h0,h4,by omega⟩,?_⟩
 have:=hs _ h0
 unfold SzOk bP GR at this ⊢
 rw[h1];exact this
theorem ri (f:Str→Option Int) (es:List En):(ko f es).1.length=es.length:=by
 have:=AB f es ([],0)
 simpa [ko,c9] using this
theorem Wb (hF:cB) (hL:dJ) (hl:l.length<100000) {f:Str→Option Int}(nds:(bQ kvs).Nodup) (hfs:∀ k,bw k kvs=f k) (w:∀ x∈l,WfS x.2.x.2) (hs:∀ x∈l,SzOk f x.2) (hds:ds=[])
  (s:SS h0 M h i js l ds lv dv kn sz kvs EL ED R)
  (k:∀ l' jk kv' dv' ED' h',l'.map (·.1)=l.map (·.1)→l'.map (·.2)=(mC f l.length (l.map (·.2))).1→(∀ x∈l',PlE x.2∧SzOk f x.2)→(bQ kv').Nodup→(∀ k,bw k kv'=(mC f l.length (l.map (·.2))).2.1 k)→
   SS h0 M h' i js l' (if 4096<(mC f l.length (l.map (·.2))).2.2 then [([],0,8)] else []) lv dv' (.map jk) (mC f l.length (l.map (·.2))).2.2 kvs EL ED' ((jk,true,bG kv')::R)→Q (.tup []) h'):C ce [.ptr i 0] h Q:=by
 subst hds
 generalize hP:mC f l.length (l.map (·.2))=P at k
 refine x7 _ _ _ ?_
 unfold su
 refine Xz hl nds hfs w hs s fun l1 jk1 kv1 h1 hm1 he1 nd1 hf1 s1=>?_
 have hw1:∀ e∈l.map (·.2),WfS e.x.2:=by
  intro e he;rw[List.mem_map]at he;obtain⟨x,hx,rfl⟩:=he;exact w x hx
 have hs1:∀ e∈l.map (·.2),SzOk f e:=by
  intro e he;rw[List.mem_map]at he;obtain⟨x,hx,rfl⟩:=he;exact hs x hx
 refine aO (fun n vs h'=>∃ (es:List En) (l1:List (Nat×En)) (jk:Nat) (kv:KV),vs=[]∧es.length<100000∧(∀ e∈es,WfS e.x.2)∧(∀ e∈es,SzOk f e)∧l1.map (·.1)=l.map (·.1)∧l1.map (·.2)=(ko f es).1∧(bQ kv).Nodup∧(∀ k,bw k kv=(ko f es).2.1 k)∧
  es.countP unG≤n∧mC f n es=P∧SS h0 M h' i js l1 [] lv dv (.map jk) (ko f es).2.2 kvs EL ED ((jk,true,bG kv)::R)) l.length ⟨l.map (·.2),l1,jk1,kv1,rfl,by simpa using hl,hw1,hs1,hm1,he1,nd1,hf1,by have:=List.countP_le_length (p:=unG) (l:=l.map (·.2));simpa using this,hP,s1⟩ ?_
 rintro n vs h2 ⟨es,l2,jk,kv,rfl,hel,hwe,hse,hm2,he2,nd2,hf2,hcnt,hfix,s2⟩
 unfold oS
 have hl2:l2.length=l.length:=by simpa using congrArg List.length hm2
 have hwl:∀ x∈l2,PlE x.2∧SzOk f x.2:=fun x hx=>S3 hel hwe hse x.2 (by rw[← he2];exact List.mem_map.2 ⟨x,hx,rfl⟩)
 have hcl:(ko f es).1.countP unG=es.countP unG:=by
  have:=Hi f es ([],0)
  simpa [ko,c9] using this
 refine abp hF hL (by omega) nd2 hf2 (fun x hx=>(hwl x hx).1) s2 fun h3 s3=>?_
 rw[he2]
 cases hany:(ko f es).1.any (rU (ko f es).2.1) with
 | true=>
   refine ah (fun _=>?_) (fun h=>by cases h)
   have hpos:=aa1 hany
   obtain⟨m,rfl⟩:∃ m,n=m+1:=⟨n-1,by omega⟩
   rw[mC,if_pos hany]at hfix
   have hmap2:(l2.map fun x=>(x.1,nl (ko f es).2.1 x.2)).map (·.2)=(ko f es).1.map (nl (ko f es).2.1):=by
    rw[List.map_map,← he2,List.map_map];rfl
   have hmap1:(l2.map fun x=>(x.1,nl (ko f es).2.1 x.2)).map (·.1)=l.map (·.1):=by
    rw[List.map_map,← hm2];rfl
   refine Xz (by rw[List.length_map];omega) nds hfs (fun x hx=>?_) (fun x hx=>?_) s3 fun l4 jk4 kv4 h4 hm4 he4 nd4 hf4 s4=>?_
   ·rw[List.mem_map]at hx;obtain⟨y,hy,rfl⟩:=hx
    simp only[(F5 _ _).1];exact (hwl y hy).1.wf
   ·rw[List.mem_map]at hx;obtain⟨y,hy,rfl⟩:=hx
    have:=(hwl y hy).2
    unfold SzOk bP GR at this ⊢
    simp only[(F5 _ _).1];exact this
   rw[hmap2]at he4 hf4 s4
   refine⟨m,by omega,(ko f es).1.map (nl (ko f es).2.1),l4,jk4,kv4,rfl,by rw[List.length_map,ri];exact hel,fun e he=>?_,fun e he=>?_,by rw[hm4,hmap1],he4,nd4,hf4,?_,hfix,s4.unR ((List.sublist_cons_self _ _).cons₂ _)⟩
   ·rw[List.mem_map]at he;obtain⟨y,hy,rfl⟩:=he
    rw[(F5 _ _).1];exact (S3 hel hwe hse y hy).1.wf
   ·rw[List.mem_map]at he;obtain⟨y,hy,rfl⟩:=he
    have:=(S3 hel hwe hse y hy).2
    unfold SzOk bP GR at this ⊢
    rw[(F5 _ _).1];exact this
   ·have:=Lh hany;omega
 | false=>
   refine ah (fun h=>by cases h) (fun _=>?_)
   have hP2:ko f es=P:=by
    rw[← hfix]
    cases n with
    | zero=>rfl
    | succ n=>rw[mC,if_neg (by rw[hany];simp)]
   have hid:(l2.map fun x=>(x.1,nl (ko f es).2.1 x.2))=l2:=by
    have:∀ x∈l2,(x.1,nl (ko f es).2.1 x.2)=x:=by
     intro x hx
     have hx2:x.2∈(ko f es).1:=by rw[← he2];exact List.mem_map.2 ⟨x,hx,rfl⟩
     rw[List.any_eq_false]at hany
     have:=hany _ hx2
     unfold nl;rw[if_neg this]
    conv=>rhs;rw[← List.map_id l2]
    exact List.map_congr_left this
   rw[hid]at s3
   rw[hP2]at he2 hf2 s3
   have si:=St.startr s3.src
   (repeat (first|refine au ?_|refine aj ?_|refine bL ?_|refine ag ‹_› (.head _) rfl ?_))
   clear si
   refine ah (fun hb=>?_) (fun hb=>?_)<;>simp only[za,zb,zc,zd,ze,zf,zg,zh,zi,u8i,zj,zk,zl]at hb
   ·rw[if_pos hb]at k
    refine CJ (by simp) s3 fun dv' ED' h4 s4=>?_
    exact k l2 jk kv dv' ED' h4 hm2 he2 hwl nd2 hf2 s4
   ·rw[if_neg (by omega)]at k
    exact k l2 jk kv dv ED h3 hm2 he2 hwl nd2 hf2 s3
end
end
section
abbrev Fg:=Str×Str
def frE (x:Fg):List AV:=[T x.1,T x.2]
def ac3 (f:Str→Option Int) (y:Sy):Str→Option Int:=upd f y.1 y.2
def lI (syms:List Sy):Str→Option Int:=syms.foldl ac3 fun _=>none
def mkE (n:Str) (x:Sm):En:=⟨n,x,0,false⟩
section
variable [Tabs]
def xY (x:Fg):List En:=(qZ x.2).map (mkE x.1)
def zG (x:Fg):List Dg:=(vm x.2).map fun k=>(x.1,k,1)
def kE (l:List Fg):List En:=l.flatMap xY
def BL (l:List Fg):List Dg:=l.flatMap zG
variable {h0 h h':ae}{M:List Nat}{Q:QT}{K:AV→Prop}{KS:ae→Prop}
variable {i js:Nat}{l:List (Nat×En)}{ds:List Dg}{lv dv kn:AV}{sz:Int}{kvs:KV}{EL ED R:Own}
theorem SS.subK {kvs':KV}:Sub (ED++((i,true,eS lv js kn dv sz)::(js,true,bG kvs)::(EL++(cz l++R)))) (js,true,bG kvs) (ED++((i,true,eS lv js kn dv sz)::(js,true,bG kvs')::(EL++(cz l++R)))) (js,true,bG kvs'):=Sub.pre (.tail .head) _
theorem abB {e:En}{p:Nat}(hl:l.length<1000000000) (s:SS h0 M h i js l ds lv dv kn sz kvs EL ED ((p,true,.cells (enE e))::R))
  (k:∀ lv' EL' h',SS h0 M h' i js (l++[(p,e)]) ds lv' dv kn sz kvs EL' ED R→KS h'):bh 1 8 lv (.full 1 [.ptr p 0]) h fun t63 h14=>aE (.ptr i 0) fun t64=>ab 0 t64 fun t65=>ak 1 t65 t63 h14 KS:=by
 have hz:cz l++((p,true,AObj.cells (enE e))::R)=cz (l++[(p,e)])++R:=by simp[cz]
 have hx:∀ (lv:AV) (EL:Own),(ED++((i,true,eS lv js kn dv sz)::(js,true,bG kvs)::(EL++(cz (l++[(p,e)])++R))))=(ED++[(i,true,eS lv js kn dv sz),(js,true,bG kvs)])++(EL++(cz (l++[(p,e)])++R)):=fun lv EL=>by simp
 have hy:∀ (lv:AV),(ED++((i,true,eS lv js kn dv sz)::(js,true,bG kvs)::(cz (l++[(p,e)])++R)))=(ED++[(i,true,eS lv js kn dv sz),(js,true,bG kvs)])++(cz (l++[(p,e)])++R):=fun lv=>by simp
 have hs:=s.st
 rw[hz,hx]at hs
 refine s.al.app (hs.perm (List.perm_append_comm_assoc _ _ _)) (xs:=pE (p,e)) (m:=1) (Rd.full rfl) rfl (by omega) fun lv' EL' h1 a1 s1=>?_
 rw[← hy]at s1
 refine au (aj ?_)
 refine Ea (L':=EL'++(ED++((i,true,eS lv' js kn dv sz)::(js,true,bG kvs)::(cz (l++[(p,e)])++R)))) a1.v1 s1 (Sub.pre (Sub.pre .head _) _) (nle rfl) fun h2 s2=>?_
 rw[hy]at s2
 refine k lv' EL' h2 ⟨by simpa using a1,s.ad,?_⟩
 rw[hx]
 exact s2.perm (List.perm_append_comm_assoc _ _ _)
theorem wj {α β:Type}(g:α→List β) (l:List α) (q:Nat):((l.take q).flatMap g).length≤(l.flatMap g).length:=by
 conv=>rhs;rw[← List.take_append_drop q l]
 rw[List.flatMap_append,List.length_append];omega
theorem jl {α β:Type}(g:α→List β) {l:List α}{q:Nat}(hq:q<l.length):(l.take (q+1)).flatMap g=(l.take q).flatMap g++g l[q]:=by
 rw[List.take_succ_eq_append_getElem hq,List.flatMap_append,List.flatMap_cons,List.flatMap_nil,List.append_nil]
theorem aaL (hF:cB) (hI:gG) (hA:jS) {frags:List Fg}{syms:List Sy}{fv sv:AV}(rf:Row frE 2 h fv frags) (rs:Row syE 2 h sv syms) (hfl:frags.length<1000000) (hsl:syms.length<1000000) (he:(kE frags).length<100000) (hd:(BL frags).length<1000000) (ht:∀ x∈frags,x.2.length<1000000000)
  (k:∀ i js l lv dv kvs EL ED h',l.map (·.2)=kE frags→(bQ kvs).Nodup→(∀ k,bw k kvs=lI syms k)→SS h [] h' i js l (BL frags) lv dv (.lit (.map none)) 0 kvs EL ED []→Q (.ptr i 0) h'):C wN [fv,sv] h Q:=by
 refine Pc _ _ _ _ ?_
 unfold PA
 refine qL (St.start h) fun js h1 s1=>?_
 refine aD rfl ?_
 refine bC s1 rfl fun i h2 s2=>?_
 have s2:SS h [] h2 i js [] [] (.full 0 []) (.full 0 []) (.lit (.map none)) 0 [] [] [] []:=⟨.none 1,.none 3,s2⟩
 refine rs.len ?_
 refine aO (fun n vs h'=>∃ (q:Nat) (kvs:KV),vs=[I (q:Nat)]∧n+q=syms.length∧(bQ kvs).Nodup∧(∀ k,bw k kvs=((syms.take q).foldl ac3 fun _=>none) k)∧SS h [] h' i js [] [] (.full 0 []) (.full 0 []) (.lit (.map none)) 0 kvs [] [] []) syms.length ⟨0,[],rfl,by omega,by simp[bQ],fun k=>rfl,s2⟩ ?_
 rintro n vs h3 ⟨q,kvs,rfl,hn,nd,hf,s3⟩
 unfold CO
 (repeat refine aJ ?_)
 refine ah (fun hq=>?_) (fun hq=>?_)<;>simp only[za,zb,zc,zd,ze,zf,zg,zh,zi,u8i,zj,zk,zl]at hq
 ·have hq:q<syms.length:=hq
  refine (rs.fr s3.st.fr).idx (fun _=>rfl) hq fun p t=>?_
  refine bd t rfl ?_
  refine aM s3.st fun t7 h4 s4=>?_
  have s4:=s3.front s4
  refine ax (L':=[]++((i,true,eS (.full 0 []) js (.lit (.map none)) (.full 0 []) 0)::(js,true,bG kvs)::([]++(cz []++((t7,true,.cells (syE syms[q]))::[]))))) (cs:=[T [],I 0]) s4.st (SS.subR .head) rfl rfl rfl (nle rfl) fun h5 s5=>?_
  have s5:SS h [] h5 i js [] [] (.full 0 []) (.full 0 []) (.lit (.map none)) 0 kvs [] [] [(t7,true,.cells (syE syms[q]))]:=⟨.none 1,.none 3,s5⟩
  have si:=St.startr s5.src
  refine au (aj (ag si (.head _) rfl (aj (ag s5.st (SS.memR (.head _)) rfl (aj (ag s5.st (SS.memR (.head _)) rfl ?_))))))
  refine uF s5.st SS.subK fun h6 s6=>?_
  refine aI (by omega) ?_
  have s6:SS h [] h6 i js [] [] (.full 0 []) (.full 0 []) (.lit (.map none)) 0 (putA syms[q].1 syms[q].2 kvs) [] [] [(t7,true,.cells (syE syms[q]))]:=⟨.none 1,.none 3,s6⟩
  refine⟨n-1,by omega,q+1,_,rfl,by omega,qI nd,fun k=>?_,s6.unR (List.nil_sublist _)⟩
  rw[List.take_succ_eq_append_getElem hq,List.foldl_append,nB,hf];rfl
 ·have hq:q=syms.length:=by omega
  subst hq
  rw[List.take_length]at hf
  refine (rf.fr s3.st.fr).len ?_
  refine aO (fun n vs h'=>∃ (q:Nat) (l:List (Nat×En)) (lv dv:AV) (EL ED:Own),vs=[I (q:Nat)]∧n+q=frags.length∧l.map (·.2)=(frags.take q).flatMap xY∧SS h [] h' i js l ((frags.take q).flatMap zG) lv dv (.lit (.map none)) 0 kvs EL ED []) frags.length ⟨0,[],.full 0 [],.full 0 [],[],[],rfl,by omega,rfl,s3⟩ ?_
  rintro n vs h4 ⟨q,l,lv,dv,EL,ED,rfl,hn,hel,s4⟩
  unfold Bz
  (repeat refine aJ ?_)
  refine ah (fun hq=>?_) (fun hq=>?_)<;>simp only[za,zb,zc,zd,ze,zf,zg,zh,zi,u8i,zj,zk,zl]at hq
  ·have hq:q<frags.length:=hq
   refine (rf.fr s4.st.fr).idx (fun _=>rfl) hq fun p t=>?_
   refine bd t rfl ?_
   have htl:=ht _ (List.getElem_mem hq)
   have hle:=wj xY frags (q+1)
   have hld:=wj zG frags (q+1)
   rw[jl xY hq,List.length_append]at hle
   rw[jl zG hq,List.length_append]at hld
   have hll:l.length=((frags.take q).flatMap xY).length:=by rw[← hel];simp
   have he':(frags.flatMap xY).length<100000:=he
   have hd':(frags.flatMap zG).length<1000000:=hd
   have hle:=Nat.lt_of_le_of_lt hle he'
   have hld:=Nat.lt_of_le_of_lt hld hd'
   have hsE:=jl xY hq
   have hsD:=jl zG hq
   have hfrE:xY frags[q]=(qZ frags[q].2).map (mkE frags[q].1):=rfl
   have hfrD:zG frags[q]=(vm frags[q].2).map fun k=>(frags[q].1,k,1):=rfl
   rw[hfrE]at hle hsE
   rw[hfrD]at hld hsD
   generalize hfr:frags[q]=fr at htl hle hld hsE hsD ⊢
   generalize hpe:(frags.take q).flatMap xY=pe at hel hle hll hsE
   generalize hpd:(frags.take q).flatMap zG=pd at s4 hld hsD
   refine aM s4.st fun t9 h5 s5=>?_
   have s5:=s4.front s5
   refine ax (L':=ED++((i,true,eS lv js (.lit (.map none)) dv 0)::(js,true,bG kvs)::(EL++(cz l++((t9,true,.cells (frE fr))::[]))))) (cs:=[T [],T []]) s5.st (SS.subR .head) rfl rfl rfl (nle rfl) fun h6 s6=>?_
   have s6:SS h [] h6 i js l pd lv dv (.lit (.map none)) 0 kvs EL ED [(t9,true,.cells (frE fr))]:=⟨s4.al,s4.ad,s6⟩
   refine aj (ag s6.st (SS.memR (.head _)) rfl ?_)
   refine Mr hF hI hA fr.2 htl fun h7 f7=>?_
   have s7:=s6.call f7
   refine aG rfl (aG rfl ?_)
   have RS:∀ h,Row smF 6 h (.snap (qZ fr.2).length ((qZ fr.2).flatMap smF)) (qZ fr.2):=fun h=>Row.snap (enc:=smF) (fun _=>rfl) _
   have RB:∀ h,Row nE 1 h (.snap (vm fr.2).length ((vm fr.2).flatMap nE)) (vm fr.2):=fun h=>Row.snap (enc:=nE) (fun _=>rfl) _
   rw[List.length_map]at hle hld
   generalize qZ fr.2=ps at RS hle hsE ⊢
   generalize vm fr.2=pb at RB hld hsD ⊢
   refine (RS h7).len ?_
   refine aO (fun n2 vs h'=>∃ (j:Nat) (l:List (Nat×En)) (lv:AV) (EL:Own),vs=[I (j:Nat)]∧n2+j=ps.length∧l.map (·.2)=pe++(ps.take j).map (mkE fr.1)∧SS h [] h' i js l pd lv dv (.lit (.map none)) 0 kvs EL ED [(t9,true,.cells (frE fr))]) ps.length ⟨0,l,lv,EL,rfl,by omega,by simpa using hel,s7⟩ ?_
   rintro n2 vs h8 ⟨j,l8,lv8,EL8,rfl,hn2,hel8,s8⟩
   unfold BK
   have hl8:l8.length≤100000:=by
    have:=congrArg List.length hel8
    simp only[List.length_map,List.length_append,List.length_take]at this
    omega
   (repeat refine aJ ?_)
   refine ah (fun hj=>?_) (fun hj=>?_)<;>simp only[za,zb,zc,zd,ze,zf,zg,zh,zi,u8i,zj,zk,zl]at hj
   ·have hj:j<ps.length:=hj
    refine (RS h8).idx (fun _=>rfl) hj fun p t=>?_
    refine bd t rfl ?_
    refine aM s8.st fun t13 h9 s9=>?_
    have s9:=s8.front s9
    refine ax (L':=ED++((i,true,eS lv8 js (.lit (.map none)) dv 0)::(js,true,bG kvs)::(EL8++(cz l8++((t13,true,.cells (smF ps[j]))::(t9,true,.cells (frE fr))::[]))))) (cs:=[I 0,T [],I 0,I 0,T [],.full 0 []]) s9.st (SS.subR .head) rfl rfl rfl (nle rfl) fun h10 s10=>?_
    have s10:SS h [] h10 i js l8 pd lv8 dv (.lit (.map none)) 0 kvs EL8 ED [(t13,true,.cells (smF ps[j])),(t9,true,.cells (frE fr))]:=⟨s8.al,s8.ad,s10⟩
    have si:=St.startr s10.src
    refine au (aj (ag si (.head _) rfl (aj (ag s10.st (SS.memR (.tail _ (.head _))) rfl ?_))))
    refine aF s10.st (SS.memR (.head _)) (nle rfl) ?_
    refine aD rfl ?_
    refine bC s10.st rfl fun p11 h11 s11=>?_
    have s11:SS h [] h11 i js l8 pd lv8 dv (.lit (.map none)) 0 kvs EL8 ED ((p11,true,.cells (enE (mkE fr.1 ps[j])))::[(t13,true,.cells (smF ps[j])),(t9,true,.cells (frE fr))]):=s10.front s11
    have si11:=St.startr s11.src
    refine⟨ag si11 (.head _) rfl rfl,aB rfl rfl ?_⟩
    refine abB (e:=mkE fr.1 ps[j]) (p:=p11) (by omega) s11 fun lv' EL' h12 s12=>?_
    refine aI (by omega) ?_
    refine⟨n2-1,by omega,j+1,l8++[(p11,mkE fr.1 ps[j])],lv',EL',rfl,by omega,?_,s12.unR (List.sublist_cons_self _ _)⟩
    rw[List.map_append,hel8,List.take_succ_eq_append_getElem hj,List.map_append,List.append_assoc];rfl
   ·have hj:j=ps.length:=by omega
    subst hj
    rw[List.take_length]at hel8
    refine (RB h8).len ?_
    refine aO (fun n3 vs h'=>∃ (b:Nat) (dv:AV) (ED:Own),vs=[I (b:Nat)]∧n3+b=pb.length∧SS h [] h' i js l8 (pd++(pb.take b).map fun k=>(fr.1,k,1)) lv8 dv (.lit (.map none)) 0 kvs EL8 ED [(t9,true,.cells (frE fr))]) pb.length ⟨0,dv,ED,rfl,by omega,by simpa using s8⟩ ?_
    rintro n3 vs h9 ⟨b,dv9,ED9,rfl,hn3,s9⟩
    unfold B9
    (repeat refine aJ ?_)
    refine ah (fun hb=>?_) (fun hb=>?_)<;>simp only[za,zb,zc,zd,ze,zf,zg,zh,zi,u8i,zj,zk,zl]at hb
    ·have hb:b<pb.length:=hb
     refine (RB h9).idx (fun _=>rfl) hb fun p t=>?_
     refine aK t ?_
     refine aj (ag s9.st (SS.memR (.head _)) rfl ?_)
     refine CJ (by simp;omega) s9 fun dv' ED' h10 s10=>?_
     refine aI (by omega) ?_
     refine⟨n3-1,by omega,b+1,dv',ED',rfl,by omega,?_⟩
     rw[List.take_succ_eq_append_getElem hb,List.map_append,← List.append_assoc];exact s10
    ·have hb:b=pb.length:=by omega
     subst hb
     rw[List.take_length]at s9
     refine aI (by omega) ?_
     refine⟨n-1,by omega,q+1,l8,lv8,dv9,EL8,ED9,rfl,by omega,?_,?_⟩
     ·rw[hsE];exact hel8
     ·rw[hsD];exact s9.unR (List.nil_sublist _)
  ·have hq:q=frags.length:=by omega
   subst hq
   rw[List.take_length]at hel s4
   exact k i js l lv dv kvs EL ED h4 hel nd hf s4
end
end
section
section
variable [Tabs]
def dr (frags:List Fg) (syms:List Sy):Pl:=mC (lI syms) (kE frags).length (kE frags)
def kJ (frags:List Fg) (syms:List Sy):List Dg:=
 if BL frags≠[] then BL frags
 else if A4 (lI syms) (kE frags)≠[] then A4 (lI syms) (kE frags)
 else if (kE frags).flatMap (szD (lI syms))≠[] then (kE frags).flatMap (szD (lI syms))
 else if 4096<(dr frags syms).2.2 then [([],0,8)]
 else (dr frags syms).1.flatMap (chD (dr frags syms).2.1 (dr frags syms).1)
def vN (frags:List Fg) (syms:List Sy):List Int:=(dr frags syms).1.flatMap (pa (lI syms) (dr frags syms).2.1)
structure Few (frags:List Fg) (syms:List Sy):Prop where
 nf:frags.length<1000000
 ns:syms.length<1000000
 ents:(kE frags).length<100000
 bads:(BL frags).length<1000000
 texts:∀ x∈frags,x.2.length<1000000000
 wf:∀ e∈kE frags,WfS e.x.2
variable {h0 h h':ae}{M:List Nat}{Q:QT}{K:AV→Prop}{KS:ae→Prop}
theorem abi (hF:cB) (hI:gG) (hA:jS) (hL:dJ) {frags:List Fg}{syms:List Sy}{fv sv:AV}(rf:Row frE 2 h fv frags) (rs:Row syE 2 h sv syms) (hw:Few frags syms)
  (kb:kJ frags syms≠[]→∀ i js l lv dv kn sz kvs EL ED R h',SS h [] h' i js l (kJ frags syms) lv dv kn sz kvs EL ED R→Q (.ptr i 0) h')
  (kg:kJ frags syms=[]→∀ i js l lv dv jk kvk kvs EL ED R h',l.map (·.2)=(dr frags syms).1→(∀ x∈l,PlE x.2∧SzOk (lI syms) x.2)→(bQ kvs).Nodup→(∀ k,bw k kvs=lI syms k)→(bQ kvk).Nodup→(∀ k,bw k kvk=(dr frags syms).2.1 k)→
   SS h [] h' i js l [] lv dv (.map jk) (dr frags syms).2.2 kvs EL ED ((jk,true,bG kvk)::R)→Q (.ptr i 0) h'):C wJ [fv,sv] h Q:=by
 refine Qa _ _ _ _ ?_
 unfold QB
 refine aaL hF hI hA rf rs hw.nf hw.ns hw.ents hw.bads hw.texts fun i js l lv dv kvs EL ED h1 hel nd hf s1=>?_
 have hlen:l.length=(kE frags).length:=by rw[← hel];simp
 have hents:=hw.ents
 have hwl:∀ x∈l,WfS x.2.x.2:=fun x hx=>hw.wf _ (by rw[← hel];exact List.mem_map.2 ⟨x,hx,rfl⟩)
 refine aB rfl rfl ?_
 refine ej ?_
 refine Bk 10 ?_
 unfold kJ at kb kg
 refine sC ?_
 unfold Ew
 refine aJ (ah (fun _=>?_) (fun h=>by cases h))
 refine B5 (h:=h1) (sz:=1) (n:=4) (cs:=[(.fn (.func cr) [.ptr i 0] []),(.fn (.func cp) [.ptr i 0] []),(.fn (.func ce) [.ptr i 0] []),(.fn (.func cq) [.ptr i 0] [])]) (Rd.full rfl) (j:=0) (by decide) fun p t=>?_
 refine aK t ?_
 clear t
 have si:=St.startr s1.src
 refine au (aj (ag si (.head _) rfl ?_))
 refine vD (s1.ad.rd s1.st) ?_
 clear si
 refine bL ?_
 refine ah (fun h0=>?_) (fun h0=>?_)<;>simp only[za,zb,zc,zd,ze,zf,zg,zh,zi,u8i,zj,zk,zl]at h0
 ·have hne:BL frags≠[]:=by intro h;rw[h]at h0;simp at h0
  unfold jy l0
  rw[if_pos hne]at kb
  exact kb hne _ _ _ _ _ _ _ _ _ _ _ _ s1
 have hn0:BL frags=[]:=by
  cases hd:BL frags with
  | nil=>rfl
  | cons a b=>rw[hd]at h0;simp at h0
 rw[hn0]at s1 kb kg
 rw[if_neg (by simp)]at kb kg
 show C cr [.ptr i 0] h1 _
 refine Y4 (by omega) rfl s1 nd hf fun dv2 ED2 h2 s2=>?_
 rw[hel]at s2
 refine aI (by decide) (rt (sC ?_))
 refine aJ (ah (fun _=>?_) (fun h=>by cases h))
 refine B5 (h:=h2) (sz:=1) (n:=4) (cs:=[(.fn (.func cr) [.ptr i 0] []),(.fn (.func cp) [.ptr i 0] []),(.fn (.func ce) [.ptr i 0] []),(.fn (.func cq) [.ptr i 0] [])]) (Rd.full rfl) (j:=1) (by decide) fun p t=>?_
 refine aK t ?_
 clear t
 have si:=St.startr s2.src
 refine au (aj (ag si (.head _) rfl ?_))
 refine vD (s2.ad.rd s2.st) ?_
 clear si
 refine bL ?_
 refine ah (fun h0=>?_) (fun h0=>?_)<;>simp only[za,zb,zc,zd,ze,zf,zg,zh,zi,u8i,zj,zk,zl]at h0
 ·have hne:A4 (lI syms) (kE frags)≠[]:=by intro h;rw[h]at h0;simp at h0
  unfold jy l0
  rw[if_pos hne]at kb
  exact kb hne _ _ _ _ _ _ _ _ _ _ _ _ s2
 have hn1:A4 (lI syms) (kE frags)=[]:=by
  cases hd:A4 (lI syms) (kE frags) with
  | nil=>rfl
  | cons a b=>rw[hd]at h0;simp at h0
 rw[hn1]at s2 kb kg
 rw[if_neg (by simp)]at kb kg
 show C cp [.ptr i 0] h2 _
 refine XU (f:=lI syms) (by omega) rfl s2 nd hf hwl fun dv3 ED3 h3 s3=>?_
 rw[hel]at s3
 refine aI (by decide) (rt (sC ?_))
 refine aJ (ah (fun _=>?_) (fun h=>by cases h))
 refine B5 (h:=h3) (sz:=1) (n:=4) (cs:=[(.fn (.func cr) [.ptr i 0] []),(.fn (.func cp) [.ptr i 0] []),(.fn (.func ce) [.ptr i 0] []),(.fn (.func cq) [.ptr i 0] [])]) (Rd.full rfl) (j:=2) (by decide) fun p t=>?_
 refine aK t ?_
 clear t
 have si:=St.startr s3.src
 refine au (aj (ag si (.head _) rfl ?_))
 refine vD (s3.ad.rd s3.st) ?_
 clear si
 refine bL ?_
 refine ah (fun h0=>?_) (fun h0=>?_)<;>simp only[za,zb,zc,zd,ze,zf,zg,zh,zi,u8i,zj,zk,zl]at h0
 ·have hne:(kE frags).flatMap (szD (lI syms))≠[]:=by intro h;rw[h]at h0;simp at h0
  unfold jy l0
  rw[if_pos hne]at kb
  exact kb hne _ _ _ _ _ _ _ _ _ _ _ _ s3
 have hn2:(kE frags).flatMap (szD (lI syms))=[]:=by
  cases hd:(kE frags).flatMap (szD (lI syms)) with
  | nil=>rfl
  | cons a b=>rw[hd]at h0;simp at h0
 rw[hn2]at s3 kb kg
 rw[if_neg (by simp)]at kb kg
 have hsz:∀ x∈l,SzOk (lI syms) x.2:=fun x hx=>ab3 (by
  rw[List.flatMap_eq_nil_iff]at hn2
  exact hn2 _ (by rw[← hel];exact List.mem_map.2 ⟨x,hx,rfl⟩))
 show C ce [.ptr i 0] h3 _
 refine Wb hF hL (by omega) nd hf hwl hsz rfl s3 fun l4 jk kv4 dv4 ED4 h4 hm4 he4 hw4 nd4 hf4 s4=>?_
 have hP:mC (lI syms) l.length (l.map (·.2))=dr frags syms:=by rw[hel,hlen];rfl
 rw[hP]at he4 hf4 s4
 have hlen4:l4.length=l.length:=by simpa using congrArg List.length hm4
 refine aI (by decide) (rt (sC ?_))
 refine aJ (ah (fun _=>?_) (fun h=>by cases h))
 refine B5 (h:=h4) (sz:=1) (n:=4) (cs:=[(.fn (.func cr) [.ptr i 0] []),(.fn (.func cp) [.ptr i 0] []),(.fn (.func ce) [.ptr i 0] []),(.fn (.func cq) [.ptr i 0] [])]) (Rd.full rfl) (j:=3) (by decide) fun p t=>?_
 refine aK t ?_
 clear t
 have si:=St.startr s4.src
 refine au (aj (ag si (.head _) rfl ?_))
 refine vD (s4.ad.rd s4.st) ?_
 clear si
 by_cases hbig:4096<(dr frags syms).2.2
 ·rw[if_pos hbig]at s4 kb ⊢
  refine bL (ah (fun _=>?_) (fun h=>by cases h))
  unfold jy l0
  exact kb (by simp) _ _ _ _ _ _ _ _ _ _ _ _ s4
 rw[if_neg hbig]at s4 kb kg ⊢
 refine bL (ah (fun h=>by cases h) (fun _=>?_))
 show C cq [.ptr i 0] h4 _
 refine Ym hF hL (by omega) s4 rfl (.head _) nd4 hf4 (fun x hx=>(hw4 x hx).1) fun dv5 ED5 h5 s5=>?_
 rw[he4]at s5
 refine aI (by decide) (rt (sC ?_))
 refine aJ (ah (fun h=>by cases h) (fun _=>?_))
 unfold jy l0
 by_cases hch:(dr frags syms).1.flatMap (chD (dr frags syms).2.1 (dr frags syms).1)=[]
 ·rw[hch]at s5
  exact kg hch _ _ _ _ _ _ _ _ _ _ _ _ he4 hw4 nd hf nd4 hf4 s5
 ·exact kb hch _ _ _ _ _ _ _ _ _ _ _ _ s5
end
end
section
section
variable [Tabs]
theorem Y8 {f:Str→Option Int}{es:List En}{e:En}(h:chD f es e=[]):(bg e.place f e.x.2.args).2=0∧(dQ e→e.place.tmod 2=0∧(np (cx e) (ie e.place (cV (bq (cx e))) (bg e.place f e.x.2.args).1)).isSome=true):=by
 unfold chD at h
 split at h
 ·cases h
 rename_i hw
 simp only[ne_eq,Classical.not_not]at hw
 unfold IT at hw
 split at hw
 ·cases hw
 rename_i h1
 split at hw
 ·cases hw
 split at hw
 ·rename_i h3;exact (h3 hw).elim
 rename_i h3
 simp only[ne_eq,Classical.not_not]at h3
 refine⟨h3,fun hc=>?_⟩
 split at hw
 ·cases hw
 rename_i h4
 refine⟨?_,?_⟩
 ·by_cases h:e.place.tmod 2=0
  ·exact h
  ·exact (h1 ⟨hc,h⟩).elim
 ·cases hcc:(np (cx e) (ie e.place (cV (bq (cx e))) (bg e.place f e.x.2.args).1)).isSome with
  | true=>rfl
  | false=>exact (h4 ⟨hc,hcc⟩).elim
theorem J2 {op:Nat}{vs:List Int}:(Jk op vs).isSome=(np op vs).isSome:=by unfold Jk;cases np op vs<;>rfl
theorem Zm {op:Nat}{vs bs:List Int}(h:Jk op vs=some bs):bs.length=mF op:=by
 unfold Jk at h
 cases hc:np op vs with
 | none=>rw[hc]at h;cases h
 | some b=>
   rw[hc]at h
   simp only[Option.map_some,Option.some.injEq]at h
   subst h
   unfold mF
   split<;>simp[YS]
theorem UM {f g:Str→Option Int}{es:List En}{e:En}(w:PlE e) (hs:SzOk g e) (h:chD f es e=[]):((pa g f e).length:Int)=pN g e:=by
 obtain⟨hz,hc⟩:=Y8 h
 have hlen:=rI hz
 unfold pa
 split
 ·rename_i hcode
  have:=(hc hcode).2
  rw[← J2]at this
  cases hen:Jk (cx e) (ie e.place (cV (bq (cx e))) (bg e.place f e.x.2.args).1) with
  | none=>rw[hen]at this;cases this
  | some bs=>
    rw[Option.getD_some,Zm hen]
    unfold pN cx
    rcases hcode with hk|hk
    ·rw[if_pos hk,if_pos hk]
    ·have hk1:¬ e.x.2.kind=1:=by omega
     have ho:=(w.wf.grow hk).1
     have hsz:∀ n,n<3→mF (rC n)=4∧mF (kj n)=2:=by decide
     simp only[if_neg hk1,if_pos hk]
     cases e.grown
     ·simp only[Bool.false_eq_true,if_false];rw[(hsz _ ho).2];rfl
     ·simp only[if_true];rw[(hsz _ ho).1];rfl
 ·rename_i hcode
  split
  ·rename_i hd
   have hfl:∀ (n:Nat) (vs:List Int),(vs.flatMap (beB n)).length=vs.length*n:=by
    intro n vs
    induction vs with
    | nil=>simp
    | cons a l ih=>rw[List.flatMap_cons,List.length_append,ih,TK,List.length_cons,Nat.add_mul];omega
   rw[hfl,hlen]
   unfold pN
   unfold dQ at hcode
   unfold eX at hd
   rw[if_neg (by omega),if_neg (by omega),if_pos hd]
   push_cast;rfl
  ·rename_i hd
   unfold dQ at hcode
   unfold eX at hd
   split
   ·rename_i h6
    unfold pN
    rw[if_neg (by omega),if_neg (by omega),if_neg (by omega),if_pos h6];simp
   ·rw[List.length_replicate]
    have:=(xd w.wf hs w.lo).1
    omega
def BC (f:Str→Option Int) (es:List En):Int:=(es.map (pN f)).sum
theorem Gc (f:Str→Option Int):∀ (es:List En) (st:List En×Int),st.2=BC f st.1→(es.foldl (nU f) st).2=BC f (es.foldl (nU f) st).1
 | [],_,h=>h
 | e::es,st,h=>by
   rw[List.foldl_cons]
   refine Gc f es _ ?_
   simp only[nU,BC,List.map_append,List.sum_append,List.map_cons,List.map_nil,List.sum_cons,List.sum_nil]at h ⊢
   omega
theorem KG (f:Str→Option Int):∀ (n:Nat) (es:List En),∃ es',mC f n es=ko f es'
 | 0,es=>⟨es,rfl⟩
 | n+1,es=>by
   unfold mC
   split
   ·exact KG f n _
   ·exact⟨es,rfl⟩
theorem VU (f:Str→Option Int) (n:Nat) (es:List En):(mC f n es).2.2=BC f (mC f n es).1:=by
 obtain⟨es',h⟩:=KG f n es
 rw[h]
 exact Gc f es' ([],0) rfl
theorem VF {f:Str→Option Int}{es:List En}(h:∀ e∈es,0≤pN f e) (q:Nat):BC f (es.take q)≤BC f es:=by
 have hpos:∀ l:List En,(∀ e∈l,0≤pN f e)→0≤BC f l:=by
  intro l
  induction l with
  | nil=>intro _;simp[BC]
  | cons a l ih=>
    intro hl
    have:=ih fun e he=>hl e (.tail _ he)
    have:=hl a (.head _)
    simp only[BC,List.map_cons,List.sum_cons]at *;omega
 conv=>rhs;rw[← List.take_append_drop q es]
 have:=hpos (es.drop q) fun e he=>h e (List.mem_of_mem_drop he)
 simp only[BC,List.map_append,List.sum_append]at *;omega
theorem QE {f g:Str→Option Int}{es0:List En}:∀ (es:List En),(∀ e∈es,PlE e∧SzOk g e∧chD f es0 e=[])→((es.flatMap (pa g f)).length:Int)=BC g es
 | [],_=>by simp[BC]
 | e::es,h=>by
   have ih:=QE es fun x hx=>h x (.tail _ hx)
   obtain⟨h1,h2,h3⟩:=h e (.head _)
   have:=UM h1 h2 h3
   simp only[List.flatMap_cons,List.length_append,BC,List.map_cons,List.sum_cons]at *
   omega
variable {h0 h h':ae}{M:List Nat}{Q:QT}{K:AV→Prop}{KS:ae→Prop}
theorem Vg {frags:List Fg}{syms:List Sy}(h:kJ frags syms=[]):(dr frags syms).2.2≤4096∧∀ e∈(dr frags syms).1,chD (dr frags syms).2.1 (dr frags syms).1 e=[]:=by
 unfold kJ at h
 split at h
 ·rename_i h1;exact (h1 h).elim
 split at h
 ·rename_i h1;exact (h1 h).elim
 split at h
 ·rename_i h1;exact (h1 h).elim
 split at h
 ·cases h
 rename_i h4
 rw[List.flatMap_eq_nil_iff]at h
 exact⟨by omega,h⟩
theorem Wy (frags:List Fg) (syms:List Sy) (hw:Few frags syms):(kJ frags syms).length<2000000:=by
 have h1:=hw.bads
 have h2:=hw.ents
 have htw:∀ (es:List En) (st:TwS) (b:Nat),TwB st b→TwB (es.foldl twE st) (b+2*es.length):=by
  intro es
  induction es with
  | nil=>intro st b h;simpa using h
  | cons e es ih=>
    intro st b h
    rw[List.foldl_cons,List.length_cons]
    have hn:∀ (nm:List Str) (st:TwS) (b:Nat),TwB st b→TwB (nm.foldl (twN e) st) (b+nm.length):=by
     intro nm
     induction nm with
     | nil=>intro st b h;simpa using h
     | cons n nm ih2=>
       intro st b h
       rw[List.foldl_cons,List.length_cons]
       have:=ih2 _ _ (h.step e n)
       exact⟨by have:=this.1;omega,fun k=>by have:=this.2 k;omega⟩
    have hl:(qr e).length≤2:=by unfold qr;split<;>simp
    have h3:=hn (qr e) st b h
    have h4:=ih (twE st e) (b+2) ⟨by have:=h3.1;unfold twE;omega,fun k=>by have:=h3.2 k;unfold twE;omega⟩
    exact⟨by have:=h4.1;omega,fun k=>by have:=h4.2 k;omega⟩
 have h5:=htw (kE frags) (tw0 (lI syms)) 0 ⟨by simp[tw0],fun k=>by simp[tw0];cases lI syms k<;>simp⟩
 have h6:=ue (Tv (lI syms)) (kE frags)
 have h7:=ue (Ul (dr frags syms).2.1 (dr frags syms).1) (dr frags syms).1
 have h8:(dr frags syms).1.length=(kE frags).length:=by
  unfold dr
  have:∀ (f:Str→Option Int) (n:Nat) (es:List En),(mC f n es).1.length=es.length:=by
   intro f n
   induction n with
   | zero=>intro es;exact ri f es
   | succ n ih=>
     intro es
     unfold mC
     split
     ·rw[ih,List.length_map,ri]
     ·exact ri f es
  exact this _ _ _
 unfold kJ
 split
 ·omega
 split
 ·have:=h5.1;unfold A4;omega
 split
 ·omega
 split
 ·simp
 ·omega
theorem Ow (hF:cB) (hI:gG) (hA:jS) (hL:dJ) {frags:List Fg}{syms:List Sy}{fv sv:AV}(rf:Row frE 2 h fv frags) (rs:Row syE 2 h sv syms) (hw:Few frags syms)
  (kb:kJ frags syms≠[]→∀ h',Fr [] h h'→Q (.tup [.full 0 [],.snap (kJ frags syms).length ((kJ frags syms).flatMap dE)]) h')
  (kg:kJ frags syms=[]→∀ h',Fr [] h h'→Q (.tup [.snap (vN frags syms).length ((vN frags syms).flatMap bE),.full 0 []]) h'):C pc [fv,sv] h Q:=by
 refine Fx _ _ _ _ ?_
 unfold Ci
 refine abi hF hI hA hL rf rs hw (fun hne i js l lv dv kn sz kvs EL ED R h1 s1=>?_) (fun hnil i js l lv dv jk kvk kvs EL ED R h1 hel hwl nds hfs ndk hfk s1=>?_)
 ·have si:=St.startr s1.src
  refine au (aj (ag si (.head _) rfl ?_))
  have rd:=s1.ad.rd s1.st
  refine vD rd ?_
  refine bL ?_
  have hlen:0<(kJ frags syms).length:=List.length_pos_iff.2 hne
  refine ah (fun _=>?_) (fun h=>by simp at h;exact (hne h).elim)
  refine au (aj (ag si (.head _) rfl ?_))
  have:=Wy frags syms hw
  refine BG (by omega) rd fun h2 f2=>?_
  exact kb hne h2 (s1.call f2).st.fr
 ·have si:=St.startr s1.src
  refine au (aj (ag si (.head _) rfl ?_))
  refine vD (s1.ad.rd s1.st) ?_
  refine bL ?_
  refine ah (fun h=>by simp at h) (fun _=>?_)
  refine au (aj (ag si (.head _) rfl ?_))
  clear si
  refine s1.row.len ?_
  obtain⟨hsz,hch⟩:=Vg hnil
  have hent:∀ e∈(dr frags syms).1,PlE e∧SzOk (lI syms) e∧chD (dr frags syms).2.1 (dr frags syms).1 e=[]:=by
   intro e he
   have he2:=he
   rw[← hel,List.mem_map]at he2
   obtain⟨x,hx,rfl⟩:=he2
   exact⟨(hwl x hx).1,(hwl x hx).2,hch _ he⟩
  have hsum:(dr frags syms).2.2=BC (lI syms) (dr frags syms).1:=VU _ _ _
  have hlong:∀ e∈(dr frags syms).1,0≤pN (lI syms) e:=fun e he=>(xd (hent e he).1.wf (hent e he).2.1 (hent e he).1.lo).1
  have hll:l.length=(kE frags).length:=by
   have h1:=congrArg List.length hel
   have h8:∀ (f:Str→Option Int) (n:Nat) (es:List En),(mC f n es).1.length=es.length:=by
    intro f n
    induction n with
    | zero=>intro es;exact ri f es
    | succ n ih=>
      intro es
      unfold mC
      split
      ·rw[ih,List.length_map,ri]
      ·exact ri f es
   rw[List.length_map]at h1
   rw[h1];exact h8 _ _ _
  have hents:=hw.ents
  have hpre:∀ q,(((l.take q).map (·.2)).flatMap (pa (lI syms) (dr frags syms).2.1)).length≤4096:=by
   intro q
   rw[List.map_take,hel]
   have h1:=QE (f:=(dr frags syms).2.1) (g:=lI syms) (es0:=(dr frags syms).1) ((dr frags syms).1.take q) fun e he=>hent e (List.mem_of_mem_take he)
   have h2:=VF hlong q
   omega
  refine aO (fun n vs h'=>∃ (q:Nat) (v:AV) (E:Own),vs=[v,I (q:Nat)]∧n+q=l.length∧AccE 1 v (((l.take q).map (·.2)).flatMap (pa (lI syms) (dr frags syms).2.1)).length ((((l.take q).map (·.2)).flatMap (pa (lI syms) (dr frags syms).2.1)).flatMap bE) E∧SS h [] h' i js l [] lv dv (.map jk) (dr frags syms).2.2 kvs EL ED (E++((jk,true,bG kvk)::R))) l.length ⟨0,.full 0 [],[],rfl,by omega,.none 1,s1⟩ ?_
  rintro n vs h2 ⟨q,v,E,rfl,hn,a,s2⟩
  unfold vX
  (repeat refine aJ ?_)
  refine ah (fun hq=>?_) (fun hq=>?_)<;>simp only[za,zb,zc,zd,ze,zf,zg,zh,zi,u8i,zj,zk,zl]at hq
  ·have hq:q<l.length:=hq
   have hm:=List.getElem_mem hq
   refine s2.row.idx (fun _=>rfl) hq fun p t=>?_
   refine aK t ?_
   have hme:l[q].2∈(dr frags syms).1:=by rw[← hel];exact List.mem_map.2 ⟨_,hm,rfl⟩
   have hsucc:=wH (pa (lI syms) (dr frags syms).2.1) hq
   have hq1:=hpre (q+1)
   rw[hsucc,List.length_append]at hq1
   have hw0:=Y8 (hent _ hme).2.2
   refine Xc hF hL (s2.ent _ hm) (hwl _ hm).1 s2.src ⟨kvk,s2.rget (List.mem_append_right _ (.head _)),ndk,hfk⟩ ⟨kvs,s2.syms,nds,hfs⟩ (hwl _ hm).2 (fun hc=>⟨hw0.1,by rw[J2];exact (hw0.2 hc).2⟩) fun u h3 f3 ru=>?_
   have s3:=s2.call f3
   refine a.app s3.backL (m:=(pa (lI syms) (dr frags syms).2.1 l[q].2).length) (xs:=(pa (lI syms) (dr frags syms).2.1 l[q].2).flatMap bE) ru (by
    have:∀ l:List Int,(l.flatMap bE).all AV.one=true:=fun l=>by
     induction l with
     | nil=>rfl
     | cons a l ih=>rw[List.flatMap_cons,List.all_append,ih];rfl
    exact this _) (by omega) fun v4 E4 h4 a4 s4=>?_
   refine aI (by omega) ?_
   refine⟨n-1,by omega,q+1,v4,E4,rfl,by omega,?_,SS.frontL s4 s3.unL⟩
   rw[hsucc,List.length_append,List.flatMap_append];exact a4
  ·have hq:q=l.length:=by omega
   subst hq
   have h1:=hpre l.length
   rw[List.take_length]at a h1
   refine sS (by omega) (a.rd s2.backL) fun h3 f3=>?_
   rw[hel]
   exact kg hnil h3 (s2.call f3).st.fr
end
end
section
section
variable [Tabs]
variable {h0 h h':ae}{M:List Nat}{Q:QT}{K:AV→Prop}{KS:ae→Prop}
end
end
section
abbrev Xn:Hd:=fun _ _ _ _ _=>none
section
theorem Td [Tabs]:(kindsL.all fun p=>Mw Pg tb5 Xn 100 eA [T p.1] .leaf 0 fun r t _=>LR (.snap p.2.length (p.2.flatMap fun x=>[T x])) r t)=true:=by kernel_rfl
theorem Wn [Tabs]:([8,15,19,24].all fun b:Nat=>Mw Pg tb5 Xn 100 sP [.lit (.float .f64 4607182418800017408),I (b:Nat)] .leaf 0 fun r t _=>LR (.lit (.float .f64 (FloatKind.f64.nearest (2^b:Nat)))) r t)=true:=by kernel_rfl
def digs:List UInt8:=[48,49,50,51,52,53,54,55,56,57]
def twoDigs:List Str:=(digs.map fun a=>[a])++digs.flatMap fun a=>digs.map fun b=>[a,b]
theorem Zk [Tabs]:(twoDigs.all fun s=>Mw Pg tb5 Xn 100 eH [T s] .leaf 0 fun r t _=>LR (.tup [I (s.foldl (fun n c=>n*10+(c.toNat-48)) 0:Nat),.lit .nilIface]) r t)=true:=by kernel_rfl
theorem HV {c:UInt8}(h:sO c=true):c∈digs:=by
 unfold sO bu at h
 simp only[Bool.and_eq_true,decide_eq_true_eq]at h
 have:∀ n,48≤n→n≤57→UInt8.ofNat n∈digs:=by
  intro n h1 h2
  have:n=48∨n=49∨n=50∨n=51∨n=52∨n=53∨n=54∨n=55∨n=56∨n=57:=by omega
  rcases this with h|h|h|h|h|h|h|h|h|h<;>subst h<;>decide
 have h3:=this c.toNat h.1 h.2
 rwa [UInt8.ofNat_toNat]at h3
theorem abv {s:Str}(h1:1≤s.length) (h2:s.length≤2) (h:s.all sO=true):s∈twoDigs:=by
 match s with
 | []=>simp at h1
 | [a]=>
   simp only[List.all_cons,List.all_nil,Bool.and_true]at h
   exact List.mem_append_left _ (List.mem_map.2 ⟨a,HV h,rfl⟩)
 | [a,b]=>
   simp only[List.all_cons,List.all_nil,Bool.and_true,Bool.and_eq_true]at h
   exact List.mem_append_right _ (List.mem_flatMap.2 ⟨a,HV h.1,List.mem_map.2 ⟨b,HV h.2,rfl⟩⟩)
 | a::b::c::r=>simp at h2
variable [Tabs5]
theorem YT:cB:=fun p hp h Q q=>lP Tabs5.tb uh (d:=100) (.snap p.2.length (p.2.flatMap fun x=>[T x])) rfl (by
 have:∀ l:List Str,clL (l.flatMap fun x=>[T x])=true:=fun l=>by
  induction l with
  | nil=>rfl
  | cons a l ih=>show (cl (T a)&&clL (l.flatMap fun x=>[T x]))=true;rw[ih];rfl
 exact this _) (List.all_eq_true.1 Td p hp) q
theorem aaX:dJ:=fun b hb h Q q=>lP Tabs5.tb uh (d:=100) (.lit (.float .f64 (FloatKind.f64.nearest (2^b:Nat)))) rfl rfl (List.all_eq_true.1 Wn b hb) q
theorem acp:jS:=fun s h1 h2 h3 h Q q=>lP Tabs5.tb uh (d:=100) _ rfl rfl (List.all_eq_true.1 Zk s (abv h1 h2 h3)) q
theorem aau:gG:=fun s sub h Q hs q=>by
 have hI:=T1
 refine⟨hI.1,fun G w vs si r=>?_⟩
 obtain⟨x,y,hx,ha,hb⟩:=r.two
 simp only[Rep]at ha hb
 obtain⟨rfl,_⟩:=ha
 obtain⟨rfl,_⟩:=hb
 obtain⟨m,hm⟩:=Tabs5.m0 _ si.tab
 subst hx
 refine (hI.2 ⟨⟨s⟩⟩ ⟨⟨sub⟩⟩ m w hs (si.frz _ _ _ hm)).mono fun e w' ⟨he,hw⟩=>?_
 subst hw
 exact⟨I (Lib.index s sub),_,h,G,he,by simp[Rep,Value.oneCell'],q,si,Evo.refl _ _ _⟩
end
end
section
section
variable [Tabs]
variable {h0 h:ae}{M:List Nat}{L R:Own}{K:AV→Prop}{Q:QT}{i:Nat}{w:WkM}
theorem wy {c:Int}{n:Str}{t:Str}{v:Int}(hc:1≤c∧c≤6) (hn:eL n=true) (ht:t.length≤600) (hw:t=[]∨mT c=true) (hv:v=0∨(c=5∧-1099511627776≤v∧v≤1099511627776)):iz ⟨c,n,t,v⟩=true:=by
 unfold iz
 rw[if_neg (by simp;omega),if_neg (by simp;omega)]
 simp only[Bool.and_eq_true,Bool.or_eq_true,decide_eq_true_eq]
 refine⟨hn,ht,hw,?_,?_⟩
 ·rcases hv with rfl|h<;>omega
 ·rcases hv with rfl|h
  ·exact .inl rfl
  ·exact .inr h.1
end
end
section
variable [Tabs]
def Gd (f:PF):Prop:=∀ l x l',f l=some (x,l')→okE x∧bo x+l'.length≤l.length
theorem Ki:∀ (ks:List Nat) (l:Str),(dG ks l).1=0∨(dG ks l).1∈ks
 | [],l=>.inl rfl
 | k::ks,l=>by
   unfold dG
   split
   ·exact .inr (.head _)
   ·rcases Ki ks (blk l) with h|h
    ·exact .inl h
    ·exact .inr (.tail _ h)
theorem Ox {sub:PF}(hs:Gd sub) (ks:List Nat) (hk:∀ k∈ks,(sg k)≠[]) (hb:∀ k∈ks,5≤k∧k≤11):∀ n x l y l',fa sub ks n x l=some (y,l')→okE x→okE y∧bo y+l'.length≤bo x+l.length
 | 0,x,l,y,l',e,hx=>by
   have:=(qu ks hk l).1
   unfold fa at e
   split at e
   ·cases e;exact⟨hx,by omega⟩
   ·cases e
 | n+1,x,l,y,l',e,hx=>by
   have h0:=qu ks hk l
   unfold fa at e
   split at e
   ·cases e;exact⟨hx,by omega⟩
   ·rename_i hne
    split at e
    ·cases e
    ·rename_i z l2 h2
     obtain⟨h3,h4⟩:=hs _ _ _ h2
     have hm:=(Ki ks l).resolve_left hne
     have:=Ox hs ks hk hb n _ _ _ _ e ⟨hb _ hm,hx,h3⟩
     have h5:=h0.2 hne
     simp only[bo]at this
     exact⟨this.1,by omega⟩
theorem ZL:∀ ks∈levelsL,∀ k∈ks,5≤k∧k≤11:=by decide
theorem Mg {one:PF}(ho:Gd one):∀ r,r≤5→Gd (gP one r)
 | 0,_=>ho
 | r+1,hr=>fun l x l' e=>by
   unfold gP at e
   have ih:=Mg ho r (by omega)
   cases h:gP one r l with
   | none=>rw[h]at e;cases e
   | some p=>
     obtain⟨y,l1⟩:=p
     rw[h]at e
     obtain⟨h1,h2⟩:=ih _ _ _ h
     have hl:=J9 (r:=4-r) (by omega)
     have:=Ox ih _ (yU _ hl).1 (ZL _ hl) _ _ _ _ _ e h1
     exact⟨this.1,by omega⟩
theorem VT {two:PF}(h2:Gd two):Gd (gY two):=fun l x l' e=>by
 unfold gY at e
 cases h:two l with
 | none=>rw[h]at e;cases e
 | some p=>
   obtain⟨y,l1⟩:=p
   rw[h]at e
   obtain⟨h1,h3⟩:=h2 _ _ _ h
   have hb:(blk l1).length≤l1.length:=nC 32 l1
   simp only at e
   split at e
   ·cases e;exact⟨h1,by simp;omega⟩
   ·cases e
theorem Fb (base:Nat) (l ds:Str) (hd:ds≠[]) (hl:ds.length≤l.length) {x:Ex}{l':Str}(e:fy base l ds=some (x,l')):okE x∧bo x+l'.length≤l.length:=by
 have:0<ds.length:=List.length_pos_iff.2 hd
 unfold fy at e
 split at e
 ·cases e
 ·split at e
  ·cases e;exact⟨trivial,by simp[bo];omega⟩
  ·cases e
theorem C8 {p:UInt8→Bool}:∀ l:Str,(l.takeWhile p).length≤l.length:=fun l=>(List.takeWhile_prefix p).length_le
theorem Uj:Gd IE:=fun l x l' e=>by
 unfold IE at e
 split at e
 ·rename_i h
  exact Fb _ _ _ h (C8 _) e
 ·split at e
  ·rename_i h
   cases e
   have hn:gv l≠[]:=fun h0=>by rw[h0]at h;cases h
   have h1:=List.length_pos_iff.2 hn
   have h2:(gv l).length≤l.length:=C8 _
   exact⟨trivial,by simp[bo];omega⟩
  ·cases e
theorem Y7:Gd BT:=fun l x l' e=>by
 unfold BT at e
 split at e
 ·split at e
  ·rename_i h
   have:=Fb _ _ _ h (C8 _) e
   simp at this;exact⟨this.1,by omega⟩
  ·exact Uj _ _ _ e
 ·exact Uj _ _ _ e
theorem Ts {c:UInt8}{l:Str}(h:([c]:Str).isPrefixOf l=true):0<l.length:=by
 cases l<;>simp_all [List.isPrefixOf]
theorem On {group minus:PF}(hg:Gd group) (hm:∀ l x l',minus l=some (x,l')→okE x∧bo x+l'.length≤l.length+1):Gd (rR group minus):=fun l x l' e=>by
 have hb:(blk l).length≤l.length:=nC 32 l
 unfold rR at e
 split at e
 ·have:=hg _ _ _ e;simp at this;exact⟨this.1,by omega⟩
 ·split at e
  ·rename_i h
   have h1:=Ts h
   have:=hm _ _ _ e;simp at this;exact⟨this.1,by omega⟩
  ·split at e
   ·rename_i h
    have h1:=Ts h
    cases e;exact⟨trivial,by simp[bo];omega⟩
   ·have:=Y7 _ _ _ e;exact⟨this.1,by omega⟩
theorem VN {one:PF}(h2:Gd one):∀ l x l',eY one l=some (x,l')→okE x∧bo x+l'.length≤l.length+1:=fun l x l' e=>by
 unfold eY at e
 cases h:one l with
 | none=>rw[h]at e;cases e
 | some p=>
   obtain⟨y,l1⟩:=p
   rw[h]at e
   cases e
   obtain⟨h3,h4⟩:=h2 _ _ _ h
   exact⟨h3,by simp[bo];omega⟩
theorem Mf:∀ d,Gd (Cu d)
 | 0=>On (fun l x l' e=>by cases e) (fun l x l' e=>by cases e)
 | d+1=>On (VT (Mg (Mf d) 5 (Nat.le_refl _))) (VN (Mf d))
theorem VX {s:Str}{x:Ex}(h:g8 s=some x):okE x∧bo x≤s.length:=by
 unfold g8 at h
 split at h
 ·cases h
 ·rename_i y l' e
  split at h
  ·cases h
   have:=Mg (Mf 12) 5 (Nat.le_refl _) _ _ _ e
   exact⟨this.1,by omega⟩
  ·cases h
theorem abj {s:Str}(h:(y8 s).2=true):(y8 s).1<32:=by
 unfold y8 at h ⊢
 split at h
 ·split at h
  ·rename_i hc
   rw[if_pos hc]
   exact of_decide_eq_true h
  ·cases h
 ·cases h
abbrev okB (N:Nat) (a:Ar):Prop:=okE a.e∧bo a.e≤N+1∧a.reg<1000
def Bi:Way→Bool
 | .word=>true
 | _=>false
theorem XF (N:Nat):∀ (ws:List Way) (l:List Str) (rs rs':RS),goW ws l rs=(rs',true)→l.length=ws.length→(∀ s∈l,s.length≤N)→(∀ a∈rs.args,okB N a)→rs.text.length≤N→
  rs'.kind=rs.kind∧rs'.op=rs.op∧rs'.args.length=rs.args.length+(ws.filter fun w=>!Bi w).length∧(∀ a∈rs'.args,okB N a)∧rs'.text.length≤N
 | [],l,rs,rs',h,hl,hs,ha,ht=>by
   simp only[goW,Prod.mk.injEq,and_true]at h
   subst h;exact⟨rfl,rfl,by simp,ha,ht⟩
 | w::ws,[],rs,rs',h,hl,hs,ha,ht=>by simp at hl
 | w::ws,s::ss,rs,rs',h,hl,hs,ha,ht=>by
   unfold goW at h
   split at h
   ·rename_i hw
    have hsl:=hs s (.head _)
    have step:(kI w s rs).1.kind=rs.kind∧(kI w s rs).1.op=rs.op∧(kI w s rs).1.args.length=rs.args.length+(if Bi w then 0 else 1)∧(∀ a∈(kI w s rs).1.args,okB N a)∧(kI w s rs).1.text.length≤N:=by
     cases w with
     | value=>
       simp only[kI]at hw ⊢
       cases hp:g8 s with
       | none=>rw[hp]at hw;cases hw
       | some x=>
         have:=VX hp
         refine⟨rfl,rfl,by simp[Bi],fun a h=>?_,ht⟩
         rcases List.mem_append.1 h with h|h
         ·exact ha a h
         ·simp at h;subst h;exact⟨this.1,by show bo x≤_;omega,by show (-1:Int)<1000;omega⟩
     | reg=>
       simp only[kI]at hw ⊢
       have:=abj hw
       refine⟨by trivial,by trivial,by simp[Bi],fun a h=>?_,ht⟩
       rcases List.mem_append.1 h with h|h
       ·exact ha a h
       ·simp at h;subst h;exact⟨trivial,by simp[bo],by show (((y8 s).1:Nat):Int)<1000;omega⟩
     | word=>
       simp only[kI]at hw ⊢
       exact⟨by trivial,by trivial,by simp[Bi],ha,hsl⟩
    obtain⟨h1,h2,h3,h4,h5⟩:=step
    obtain⟨g1,g2,g3,g4,g5⟩:=XF N ws ss _ rs' h (by simpa using hl) (fun x hx=>hs x (.tail _ hx)) h4 h5
    refine⟨g1.trans h1,g2.trans h2,?_,g4,g5⟩
    rw[g3,h3]
    cases w<;>simp[Bi]<;>omega
   ·cases h
theorem aav {N:Nat}{ws:List Way}{l:List Str}{rs:RS}(h:(oW l ws rs).2=true) (hs:∀ s∈l,s.length≤N) (ha:rs.args=[]) (ht:rs.text.length≤N):
  (oW l ws rs).1.kind=rs.kind∧(oW l ws rs).1.op=rs.op∧(oW l ws rs).1.args.length=(ws.filter fun w=>!Bi w).length∧(∀ a∈(oW l ws rs).1.args,okB N a)∧(oW l ws rs).1.text.length≤N:=by
 unfold oW at h ⊢
 split at h
 ·rename_i hl
  rw[if_pos hl]
  have:=XF N ws l rs (goW ws l rs).1 (by rw[← h]) hl hs (by rw[ha];simp) ht
  rw[ha]at this
  simpa using this
 ·cases h
theorem NW (s:Str):∀ x∈cb s,x.length≤s.length:=fun x hx=>by
 unfold cb at hx
 split at hx
 ·cases hx
 ·rw[List.mem_map]at hx
  obtain⟨y,hy,rfl⟩:=hx
  have h3:=jR 44 s y hy
  have h4:=qW y
  omega
theorem WU (l:List Str):((l.map l7).filter fun w=>!Bi w).length=l.length:=by
 rw[List.filter_eq_self.2]
 ·simp
 ·intro w hw
  obtain⟨k,_,rfl⟩:=List.mem_map.1 hw
  unfold l7;split<;>rfl
theorem Uv (n:Nat):((List.replicate n Way.value).filter fun w=>!Bi w).length=n:=by
 rw[List.filter_eq_self.2]
 ·simp
 ·intro w hw
  rw[(List.mem_replicate.1 hw).2];rfl
theorem Vs:∀ n,n<3→(cV (bq (kj n))).length≤1+n / 2*2∧(cV (bq (rC n))).length≤1+n / 2*2:=by decide
theorem Zi {N:Nat}(hN:N≤100000) {name rest:Str}{lab:Str}(hr:rest.length≤N) (h:(yB name rest (rs0 lab)).2=true):WfS (yB name rest (rs0 lab)).1:=by
 have hop:∀ s∈cb rest,s.length≤N:=fun s hs=>Nat.le_trans (NW rest s hs) hr
 have fin:∀ {ws:List Way} {rs:RS},(oW (cb rest) ws rs).2=true→rs.args=[]→rs.text=[]→ws.length≤1000→
   (rs.kind=1→rs.op<tbl.length∧(cV (bq rs.op)).length≤(ws.filter fun w=>!Bi w).length)→
   (rs.kind=2→rs.op<3∧(cV (bq (kj rs.op))).length≤(ws.filter fun w=>!Bi w).length∧(cV (bq (rC rs.op))).length≤(ws.filter fun w=>!Bi w).length)→
   (3≤rs.kind→rs.kind≠6→0<(ws.filter fun w=>!Bi w).length)→rs.kind≤9→WfS (oW (cb rest) ws rs).1:=fun {ws rs} h ha ht hw h1 h2 h3 h9=>by
  obtain⟨g1,g2,g3,g4,g5⟩:=aav h hop ha (by rw[ht];simp)
  have hf:(ws.filter fun w=>!Bi w).length≤ws.length:=List.length_filter_le _ _
  refine⟨fun k=>?_,fun k=>?_,fun k k6=>?_,by rw[g1];exact h9,by omega,by omega,fun a hx=>?_⟩
  ·rw[g2,g3];exact h1 (g1 ▸ k)
  ·rw[g2,g3];exact h2 (g1 ▸ k)
  ·have:=h3 (by omega) (by omega)
   intro h0
   rw[h0]at g3;simp at g3;omega
  ·obtain⟨b1,b2,b3⟩:=g4 a hx
   exact⟨b1,by omega,b3⟩
 unfold yB at h ⊢
 split
 ·rename_i op hf
  rw[hf]at h
  have hl:=D6 hf
  have hk:(cV (bq op)).length≤10:=by
   have:∀ r∈tbl,(cV r.kinds).length≤10:=by decide
   have h2:=this _ (List.getElem_mem hl)
   rw[show bq op=tbl[op].kinds by simp[bq,hl]];exact h2
  exact fin h rfl rfl (by simp;omega) (fun _=>⟨hl,by rw[WU];exact Nat.le_refl _⟩) (fun k=>by cases k) (fun k _=>absurd k (by show ¬ 3≤1;decide)) (by show 1≤9;decide)
 ·rename_i hf
  rw[hf]at h
  simp only at h
  split
  ·rename_i hg
   rw[if_pos hg]at h
   have h3:(ll name growsL).toNat<3:=(u1 name growsL).2.2 hg
   refine fin h rfl rfl (by simp;omega) (fun k=>by cases k) (fun _=>⟨h3,?_⟩) (fun k _=>absurd k (by show ¬ 3≤2;decide)) (by show 2≤9;decide)
   rw[Uv];exact Vs _ h3
  ·rename_i hg
   rw[if_neg hg]at h
   split
   ·rename_i hd
    rw[if_pos hd]at h
    have h3:(ll name datasL).toNat<3:=(u1 name datasL).2.2 hd
    split
    ·rename_i hc
     rw[if_pos hc]at h
     refine fin h rfl rfl (by simp;omega) (fun k=>by have k:3+(ll name datasL).toNat=1:=k;omega) (fun k=>by have k:3+(ll name datasL).toNat=2:=k;omega) (fun _ _=>by rw[Uv];omega) (by show 3+(ll name datasL).toNat≤9;omega)
    ·rename_i hc
     rw[if_neg hc]at h;cases h
   ·rename_i hd
    rw[if_neg hd]at h
    split
    ·rename_i ha
     rw[if_pos ha]at h
     unfold Bc at h ⊢
     split at h
     ·cases h
     ·rename_i hq
      rw[if_neg hq]
      exact⟨(fun k=>by cases k),(fun k=>by cases k),fun _ k=>absurd rfl k,(by show 6≤9;decide),(by show ([]:List Ar).length<_;decide),(by simp;omega),(fun a ha=>by cases ha)⟩
    ·rename_i ha
     rw[if_neg ha]at h
     split
     ·rename_i hp
      rw[if_pos hp]at h
      have h3:(ll name spacesL).toNat<2:=(u1 name spacesL).2.2 hp
      exact fin h rfl rfl (by simp) (fun k=>by have k:7+(ll name spacesL).toNat=1:=k;omega) (fun k=>by have k:7+(ll name spacesL).toNat=2:=k;omega) (fun _ _=>by decide) (by show 7+(ll name spacesL).toNat≤9;omega)
     ·rename_i hp
      rw[if_neg hp]at h
      split
      ·rename_i hq
       rw[if_pos hq]at h
       exact fin h rfl rfl (by simp) (fun k=>by cases k) (fun k=>by cases k) (fun _ _=>by decide) (by show 9≤9;decide)
      ·rename_i hq
       rw[if_neg hq]at h;cases h
theorem aaf {s:Str}(hs:s.length≤100000) {rs:RS}(h:Ov s=some (some rs)):WfS rs:=by
 unfold Ov at h
 split at h
 ·cases h
 ·split at h
  ·cases h
  ·rename_i lab s' hl
   have hl':s'.length≤s.length:=by
    have hb:=Pr s
    unfold V3 at hl
    split at hl
    ·split at hl
     ·cases hl
      have:=qW ((zV s).drop (df fP (zV s)+1))
      simp at this;omega
     ·cases hl
    ·cases hl;exact hb
   split at h
   ·split at h
    ·cases h
    ·cases h
     exact⟨fun k=>(by cases k),fun k=>(by cases k),fun k=>absurd k (by show ¬ 3≤0;decide),(by show 0≤9;decide),(by show 0<1000000000;decide),(by show 0<1000000000;decide),(fun a ha=>by cases ha)⟩
   ·split at h
    ·rename_i ht
     cases h
     refine Zi (N:=100000) (by decide) ?_ ht
     have:=qW (s'.drop (df AK s'))
     unfold H1
     simp at this;omega
    ·cases h
theorem U1 {s:Str}(hs:s.length≤100000):∀ x∈qZ s,WfS x.2:=fun x hx=>by
 unfold qZ Dy at hx
 obtain⟨n,hn,h⟩:=List.mem_flatMap.1 hx
 have hn:n<(bM 10 s).length:=by simpa using hn
 have e:((bM 10 s)[n]?).getD []=(bM 10 s)[n]:=by simp[hn]
 rw[e]at h
 have hl:=jR 10 s _ (List.getElem_mem hn)
 unfold stm at h
 split at h
 ·rename_i rs ho
  simp at h;subst h
  exact aaf (by omega) ho
 ·cases h
theorem ab2 {frags:List Fg}{syms:List Sy}(hf:frags.length≤100) (hs:syms.length≤1000) (ht:∀ x∈frags,x.2.length≤900):Few frags syms:=by
 have hlen:∀ (g:Fg→Nat) (l:List Fg),(∀ x∈l,g x≤901)→(l.map g).sum≤l.length*901:=fun g l h=>by
  induction l with
  | nil=>simp
  | cons a l ih=>
    have:=h a (.head _)
    have:=ih fun x hx=>h x (.tail _ hx)
    simp[Nat.add_mul];omega
 have hp:∀ x∈frags,(bM 10 x.2).length≤901:=fun x hx=>by
  have h1:=jN 10 x.2
  have h2:=List.count_le_length (a:=(10:UInt8)) (l:=x.2)
  have:=ht x hx
  omega
 have hm:frags.length*901≤100*901:=Nat.mul_le_mul_right _ hf
 refine⟨by omega,by omega,?_,?_,fun x hx=>by have:=ht x hx;omega,fun e he=>?_⟩
 ·unfold kE
  rw[List.length_flatMap]
  have:=hlen (fun x=>(xY x).length) frags fun x hx=>by
   unfold xY
   rw[List.length_map]
   exact Nat.le_trans (yg stm TS _ _) (hp x hx)
  omega
 ·unfold BL
  rw[List.length_flatMap]
  have:=hlen (fun x=>(zG x).length) frags fun x hx=>by
   unfold zG
   rw[List.length_map]
   exact Nat.le_trans (yg Hn OL _ _) (hp x hx)
  omega
 ·obtain⟨x,hx,he⟩:=List.mem_flatMap.1 he
  obtain⟨y,hy,rfl⟩:=List.mem_map.1 he
  exact U1 (by have:=ht x hx;omega) y hy
end
section
theorem jK {s:Str}(h:eL s=true):s.length≤12:=by
 unfold eL at h
 split at h
 ·cases h
 ·simp only[Bool.and_eq_true,decide_eq_true_eq]at h;exact h.1
section
variable [Tabs]
variable {h0 h:ae}{M:List Nat}{L R R':Own}{K:AV→Prop}{KH:QT}{KS':ae→Prop}{Q:QT}{i:Nat}{w:WkM}
def wF (w:WkM):List AV:=if kJ w.f w.s=[] then [I 0,T [],.snap (vN w.f w.s).length ((vN w.f w.s).flatMap bE),.full 0 []] else [I 14,T [],.full 0 [],.snap (kJ w.f w.s).length ((kJ w.f w.s).flatMap dE)]
theorem RI (hF:cB) (hI:gG) (hA:jS) (hL:dJ) (hks:GW) {r:Rq}(ok:WkOk w) (s:WkS h0 M h i w R) (k:∀ h',WkS h0 M h' i w R→Q (.agg (wF w)) h'):C io [.ptr i 0,rqE r] h Q:=by
 refine Al _ _ _ _ ?_
 unfold v8
 obtain⟨jf,js,xf,xs,mf,ms,s⟩:=s
 refine bC s rfl fun p h1 s1=>?_
 refine aM s1 fun q h2 s2=>?_
 have s2:WkS h0 M h2 i w ((q,true,.cells [I 0,S ⟨#[]⟩,.full 0 [],.full 0 []])::(p,true,.cells (rqE r).cells)::R):=⟨jf,js,xf,xs,mf,ms,s2.perm (by
   refine (List.perm_append_comm (l₁:=[(q,true,AObj.cells [I 0,S ⟨#[]⟩,.full 0 [],.full 0 []]),(p,true,.cells (AV.cells (rqE r)))]) (l₂:=[(i,true,AObj.cells [AV.map jf,AV.map js]),(jf,true,xf),(js,true,xs)])).append_right R)⟩
 have hfn:=ok.fn
 have hsn:=ok.sn
 refine yO hks (Nat.le_trans ok.fn (by decide)) (fun x hx=>Nat.le_trans (jK (ok.fw x hx)) (by decide)) s2 fun h3 s3=>?_
 refine Cb hks (Nat.le_trans ok.sn (by decide)) (fun x hx=>Nat.le_trans (jK (ok.sw x hx)) (by decide)) s3 fun h4 s4=>?_
 have fin:∀ (cs:List AV) (h6:ae),cs=wF w→WkS h0 M h6 i w ((q,true,.cells cs)::(p,true,.cells (rqE r).cells)::R)→WkS h0 M h6 i w R:=fun cs h6 hc s6=>by
  obtain⟨jf,js,xf,xs,mf,ms,s6⟩:=s6
  exact⟨jf,js,xf,xs,mf,ms,s6.sub (by exact (((List.sublist_cons_self _ _).trans (List.sublist_cons_self _ _)).cons_cons _).cons_cons _ |>.cons_cons _)⟩
 refine Ow hF hI hA hL (frags:=w.f) (syms:=w.s) (Row.snap (enc:=frE) (fun _=>rfl) _) (Row.snap (enc:=syE) (fun _=>rfl) _) (ab2 (by omega) (by omega) fun x hx=>by have:=ok.txt x hx;omega) (fun hd h5 f5=>?_) (fun hd h5 f5=>?_)
 ·have s5:=s4.after f5
  refine aG rfl (aG rfl (cA (bL (ah (fun _=>?_) (fun h=>?_)))))
  ·refine aD rfl ?_
   have hb:[I 14,T [],AV.full 0 [],.snap (kJ w.f w.s).length ((kJ w.f w.s).flatMap dE)]=wF w:=by unfold wF;rw[if_neg hd]
   refine yc (o:=0) s5 .head rfl rfl rfl (nle rfl) fun h6 s6=>?_
   refine CE s6 (.head _) (nle rfl) ?_
   rw[← hb]at k
   exact k _ (fin _ _ hb s6)
  ·have:=List.length_pos_iff.2 hd
   have h:=of_decide_eq_false h;omega
 ·have s5:=s4.after f5
  refine aG rfl (aG rfl (ej (bL (ah (fun h=>by cases h) (fun _=>?_)))))
  refine aD rfl ?_
  have hb:[I 0,T [],.snap (vN w.f w.s).length ((vN w.f w.s).flatMap bE),AV.full 0 []]=wF w:=by unfold wF;rw[if_pos hd]
  refine yc (o:=0) s5 .head rfl rfl rfl (nle rfl) fun h6 s6=>?_
  refine CE s6 (.head _) (nle rfl) ?_
  rw[← hb]at k
  exact k _ (fin _ _ hb s6)
theorem YP {r:Rq}(h:iz r=true) (h7:r.kind=7):r.name=[]∧r.text=[]∧r.value=0:=by
 unfold iz at h
 rw[if_neg (by omega),if_pos h7]at h
 exact of_decide_eq_true h
theorem Yy (hF:cB) (hI:gG) (hA:jS) (hL:dJ) (hks:GW) {r:Rq}(hr:iz r=true) (h7:r.kind=7) (ok:WkOk w) (s:WkS h0 M h i w R) (k:∀ h',WkS h0 M h' i w R→Q (.agg (wF w)) h'):C iQ [.ptr i 0,rqE r] h Q:=by
 refine wi _ _ _ _ ?_
 unfold vp
 obtain⟨jf,js,xf,xs,mf,ms,s⟩:=s
 refine bC s rfl fun p h1 s1=>?_
 refine aM s1 fun q h2 s2=>?_
 refine aF s2 (.tail _ (.head _)) (nle rfl) ?_
 refine J8 r (by rw[(YP hr h7).1];decide) fun h3 f3=>?_
 have s3:=s2.after f3
 rw[hr]
 refine bi (ah (fun h=>by cases h) (fun _=>?_))
 refine aj (ag s3 (.tail _ (.head _)) rfl ?_)
 refine aF s3 (.tail _ (.head _)) (nle rfl) ?_
 show C qo [I r.kind] h3 _
 rw[h7]
 refine Pe (n:=6) (by decide) fun a ha=>?_
 refine⟨aF s3 (.tail _ (.head _)) (nle rfl) rfl,?_⟩
 cases ha
 have s4:WkS h0 M h3 i w ((q,true,.cells [I 0,S ⟨#[]⟩,.full 0 [],.full 0 []])::(p,true,.cells (AV.cells (rqE r)))::R):=⟨jf,js,xf,xs,mf,ms,s3.perm (by
   refine (List.perm_append_comm (l₁:=[(q,true,AObj.cells [I 0,S ⟨#[]⟩,.full 0 [],.full 0 []]),(p,true,.cells (AV.cells (rqE r)))]) (l₂:=[(i,true,AObj.cells [AV.map jf,AV.map js]),(jf,true,xf),(js,true,xs)])).append_right R)⟩
 refine RI hF hI hA hL hks ok s4 fun h5 s5=>?_
 have hb4:(wF w).length=4∧(wF w).all AV.one=true:=by unfold wF;split<;>exact⟨rfl,rfl⟩
 refine yc (o:=0) (cs:=[I 0,S ⟨#[]⟩,.full 0 [],.full 0 []]) (R':=(q,true,.cells (wF w))::(p,true,.cells (AV.cells (rqE r)))::R) s5 ?_ rfl hb4.1 hb4.2 (nle rfl) fun h6 s6=>?_
 ·have:splice [I 0,S ⟨#[]⟩,.full 0 [],.full 0 []] 0 (AV.agg (wF w)).cells=wF w:=by
   show splice _ 0 (wF w)=_
   simp[splice,hb4.1]
  rw[this];exact .head
 refine CE s6 (.head _) (by rw[hb4.1];exact Nat.le_refl 4) ?_
 rw[List.drop_zero,List.take_of_length_le (by rw[hb4.1];exact Nat.le_refl 4)]
 refine k _ ?_
 obtain⟨jf,js,xf,xs,mf,ms,s6⟩:=s6
 exact⟨jf,js,xf,xs,mf,ms,s6.sub (by exact (((List.sublist_cons_self _ _).trans (List.sublist_cons_self _ _)).cons_cons _).cons_cons _ |>.cons_cons _)⟩
structure WkG (w:WkM):Prop where
 ok:WkOk w
 so:WkSo w
theorem WkG.nil:WkG ⟨[],[]⟩:=⟨.nil,.nil⟩
def doG (w:WkM) (r:Rq):WkM:=if r.kind=7 then w else (doW w r).1
def Ga (w:WkM) (r:Rq):List AV:=if r.kind=7 then wF w else reL (doW w r).2.1 (doW w r).2.2
theorem WkG.doG {w:WkM}(o:WkG w) (r:Rq):WkG (doG w r):=by
 unfold AL.doG
 split
 ·exact o
 ·rename_i h7
  exact⟨o.ok.doW o.so h7,o.so.doW r⟩
theorem abA (hF:cB) (hI:gG) (hA:jS) (hL:dJ) (hks:GW) {r:Rq}(hr:iz r=true) (hn:r.name.length≤1000) (o:WkG w) (s:WkS h0 M h i w R) (k:∀ h',WkS h0 M h' i (doG w r) R→Q (.agg (Ga w r)) h'):C iQ [.ptr i 0,rqE r] h Q:=by
 by_cases h7:r.kind=7
 ·unfold doG Ga at k
  rw[if_pos h7,if_pos h7]at k
  exact Yy hF hI hA hL hks hr h7 o.ok s k
 ·unfold doG Ga at k
  rw[if_neg h7,if_neg h7]at k
  exact acL o.ok (by omega) h7 s s.so.f k
end
end
section
section
variable [Tabs]
variable {h0 h:ae}{M:List Nat}{L R:Own}{K:AV→Prop}{Q:QT}
def O4 (i:Nat) (n:Nat):Bool:=(decide (97≤n∧n≤122)||decide (n=95))||(decide (0<i)&&bu n)
def dgB (i:Nat) (n:Nat) (d:Bool):Bool:=if 0<i∧bu n=false then false else d
theorem XM {x:AV}{i n:Nat}{d e:Bool}(hi:i≤12) (he:e=bu n) {nx:NT}(k:nx [x,B (dgB i n d),I ((i+1:Nat):Int)] h):jW [x,B d,I (i:Nat)] (B e) h nx:=by
 unfold jW
 unfold dgB at k
 subst he
 (repeat refine bL ?_)
 refine ah (fun h1=>?_) (fun h1=>?_)<;>simp only[za,zb,zc,zd,ze,zf,zg,zh,zi,u8i,zj,zk,zl]at h1
 ·(repeat refine bi ?_)
  unfold u0
  cases hp:bu n
  ·rw[if_pos ⟨by omega,hp⟩]at k
   unfold iw qe
   exact aI (by omega) k
  ·rw[if_neg (by simp[hp])]at k
   unfold iw qe
   exact aI (by omega) k
 ·rw[if_neg (by omega)]at k
  unfold iw qe
  exact aI (by omega) k
theorem adj {x:AV}{i n:Nat}{c:UInt8}{d e a:Bool}(hn:n=c.toNat) (hi:i≤12) (he:e=bu n) (ha:a=!decide (97≤n∧n≤122)) {nx:NT}
  (k:if O4 i n then nx [x,B (dgB i n d),I ((i+1:Nat):Int)] h else Q (B false) h):mO (B a) (.lit (.int .u8 n)) [x,B d,I (i:Nat)] Q h (B e) nx:=by
 unfold mO
 subst ha
 unfold O4 at k
 by_cases h1:97≤n∧n≤122
 ·rw[if_pos (by simp[h1])]at k
  rw[decide_eq_true h1]
  exact XM hi he k
 ·rw[decide_eq_false h1]
  (repeat refine cc ?_)
  refine ah (fun h2=>?_) (fun h2=>?_)<;>simp only[za,zb,zc,zd,ze,zf,zg,zh,zi,u8i,zj,zk,zl]at h2
  ·(repeat refine aA ?_)
   refine ah (fun h3=>?_) (fun h3=>?_)<;>simp only[za,zb,zc,zd,ze,zf,zg,zh,zi,u8i,zj,zk,zl]at h3
   ·skip
    rw[if_neg (by simp[h1];omega)]at k
    exact k
   ·(repeat refine bi ?_)
    subst he
    cases hp:bu n
    ·rw[if_neg (by simp[h1,hp];omega)]at k
     exact k
    ·rw[if_pos (by simp[hp];omega)]at k
     have:=XM (x:=x) (d:=d) hi hp.symm k
     exact this
  ·rw[if_pos (by simp;omega)]at k
   exact XM hi he k
theorem acZ {x:AV}{s:Str}{i:Nat}{d:Bool}(hi:i<s.length) (hl:s.length≤12) {nx:NT}
  (k:if O4 i s[i].toNat then nx [x,B (dgB i s[i].toNat d),I ((i+1:Nat):Int)] h else Q (B false) h):iJ (T s) Q [x,B d,I (i:Nat)] h nx:=by
 unfold iJ
 (repeat (first|refine aZ ?_|refine aJ ?_))
 refine ah (fun h1=>?_) (fun h1=>?_)<;>simp only[za,zb,zc,zd,ze,zf,zg,zh,zi,u8i,zj,zk,zl]at h1
 ·refine bR hi ?_
  have hn:∀ {e a:Bool},e=bu s[i].toNat→a=!decide (97≤s[i].toNat∧s[i].toNat≤122)→mO (B a) (U8 s[i]) [x,B d,I (i:Nat)] Q h (B e) nx:=fun he ha=>adj rfl (by omega) he ha k
  have q1:∀ p q:Bool,(p=true↔q=true)→p=q:=fun p q=>Bool.eq_iff_iff.2
  refine bz ?_
  refine ah (fun h2=>?_) (fun h2=>?_)<;>simp only[za,zb,zc,zd,ze,zf,zg,zh,zi,u8i,zj,zk,zl]at h2
  ·refine fQ (bz ?_)
   refine ah (fun h3=>?_) (fun h3=>?_)<;>simp only[za,zb,zc,zd,ze,zf,zg,zh,zi,u8i,zj,zk,zl]at h3
   ·refine fQ (bi ?_)
    exact hn (q1 _ _ (by simp[bu];omega)) (q1 _ _ (by simp;omega))
   ·refine bi ?_
    exact hn (q1 _ _ (by simp[bu];omega)) (q1 _ _ (by simp;omega))
  ·refine bz ?_
   refine ah (fun h3=>?_) (fun h3=>?_)<;>simp only[za,zb,zc,zd,ze,zf,zg,zh,zi,u8i,zj,zk,zl]at h3
   ·refine fQ (bi ?_)
    exact hn (e:=false) (q1 _ _ (by simp[bu];omega)) (q1 _ _ (by simp;omega))
   ·refine bi ?_
    exact hn (e:=false) (q1 _ _ (by simp[bu];omega)) (q1 _ _ (by simp;omega))
 ·omega
theorem acF {x:AV}{s:Str}{d:Bool}{nx:NT}(k:Q (B (!d)) h):iJ (T s) Q [x,B d,I (s.length:Nat)] h nx:=by
 unfold iJ
 (repeat (first|refine aZ ?_|refine aJ ?_))
 refine ah (fun h1=>?_) (fun h1=>?_)<;>simp only[za,zb,zc,zd,ze,zf,zg,zh,zi,u8i,zj,zk,zl]at h1
 ·omega
 ·(repeat refine bi ?_)
  exact k
def r3F:Str→Nat→Bool→Bool
 | [],_,d=>!d
 | c::t,i,d=>if O4 i c.toNat then r3F t (i+1) (dgB i c.toNat d) else false
theorem YK:∀ (t:Str) (i:Nat) (d:Bool),0<i→r3F t i d=(t.all (fun c=>dp c.toNat)&&!(d&&t.all fun c=>bu c.toNat))
 | [],i,d,_=>by simp[r3F]
 | c::t,i,d,h=>by
   unfold r3F
   have e:O4 i c.toNat=dp c.toNat:=by
    unfold O4 dp x9 bu
    rw[Bool.eq_iff_iff];simp[h];try omega
   rw[e,YK t (i+1) _ (by omega)]
   unfold dgB
   simp only[List.all_cons]
   cases dp c.toNat<;>cases hp:bu c.toNat<;>simp[h,hp]
theorem X4 (c:UInt8) (t:Str) (hl:(c::t).length≤12):r3F (c::t) 0 (decide (c=114)&&decide (t.length > 0))=eL (c::t):=by
 unfold r3F eL
 rw[YK t 1 _ (by omega),decide_eq_true hl]
 have e:O4 0 c.toNat=(!bu c.toNat&&dp c.toNat):=by
  unfold O4 dp x9 bu
  rw[Bool.eq_iff_iff];simp;try omega
 have e2:dgB 0 c.toNat (decide (c=114)&&decide (t.length > 0))=(decide (c=114)&&decide (t.length > 0)):=by unfold dgB;simp
 rw[e,e2]
 simp only[List.all_cons]
 cases t with
 | nil=>cases bu c.toNat<;>cases dp c.toNat<;>simp
 | cons b t=>by_cases h:c=114<;>cases bu c.toNat<;>cases dp c.toNat<;>simp[h]
theorem P2 (s:Str) (hs:s.length<4611686018427387904) (k:Q (B (eL s)) h):C mA [T s] h Q:=by
 refine Nh _ _ _ ?_
 unfold JX
 (repeat (first|refine aZ ?_|refine aJ ?_))
 refine ah (fun h1=>?_) (fun h1=>?_)<;>simp only[za,zb,zc,zd,ze,zf,zg,zh,zi,u8i,zj,zk,zl]at h1
 ·match s,h1 with
  | [],_=>exact k
  | c::t,h1=>simp at h1;omega
 ·(repeat (first|refine aZ ?_|refine bL ?_))
  refine ah (fun h2=>?_) (fun h2=>?_)<;>simp only[za,zb,zc,zd,ze,zf,zg,zh,zi,u8i,zj,zk,zl]at h2
  ·match s,h1 with
   | c::t,_=>
     have:eL (c::t)=false:=by unfold eL;rw[decide_eq_false (by omega)];rfl
     rw[this]at k;exact k
  ·match s,h1 with
   | c::t,_=>
     have hl:(c::t).length≤12:=by omega
     have go:∀ d:Bool,d=(decide (c=114)&&decide (t.length > 0))→bW [B false,B d,I 0] h fun vs h nx=>iJ (T (c::t)) Q vs h nx:=fun d hd=>by
      refine aO (fun n vs h'=>∃ (i:Nat) (d:Bool),vs=[B false,B d,I (i:Nat)]∧h'=h∧n+i=(c::t).length∧r3F ((c::t).drop i) i d=eL (c::t)) (c::t).length ⟨0,d,rfl,rfl,rfl,by rw[hd];exact X4 c t hl⟩ ?_
      rintro n vs h' ⟨i,d,rfl,rfl,hn,hr⟩
      by_cases hi:i<(c::t).length
      ·refine acZ hi hl ?_
       rw[List.drop_eq_getElem_cons hi]at hr
       unfold r3F at hr
       split
       ·rename_i hf
        rw[if_pos hf]at hr
        exact⟨n-1,by omega,i+1,_,rfl,rfl,by omega,hr⟩
       ·rename_i hf
        rw[if_neg hf]at hr
        rw[← hr]at k;exact k
      ·obtain rfl:i=(c::t).length:=by omega
       rw[List.drop_length]at hr
       unfold r3F at hr
       rw[← hr]at k
       exact acF k
     refine bR (i:=0) (by simp) ?_
     (repeat refine aA ?_)
     have e0:(c::t)[0].toNat=c.toNat:=rfl
     have ec:c.toNat=114↔c=114:=⟨fun h=>by rw[← UInt8.ofNat_toNat (x:=c),h];rfl,fun h=>by rw[h];rfl⟩
     refine ah (fun h3=>?_) (fun h3=>?_)<;>simp only[za,zb,zc,zd,ze,zf,zg,zh,zi,u8i,zj,zk,zl]at h3
     ·(repeat (first|refine aZ ?_|refine bL ?_))
      rw[e0]at h3
      have h4:c=114:=ec.1 (by omega)
      refine go _ ?_
      rw[decide_eq_true h4,Bool.true_and]
      rw[Bool.eq_iff_iff];simp
      omega
     ·rw[e0]at h3
      have h4:¬ c=114:=fun h=>h3 (by have:=ec.2 h;omega)
      exact go _ (by rw[decide_eq_false h4,Bool.false_and])
end
end
section
theorem TU {c:UInt8}{n:Nat}(hn:n<256):((c.toNat:Int)=(n:Int))↔c=UInt8.ofNat n:=by
 constructor
 ·intro h
  have:c.toNat=n:=by omega
  rw[← this,UInt8.ofNat_toNat]
 ·rintro rfl
  have:(UInt8.ofNat n).toNat=n:=by simp;omega
  rw[this]
theorem Bf {s:Str}{p:Nat}(h:p<s.length):s.drop p=s[p]::s.drop (p+1):=List.drop_eq_getElem_cons h
section
variable [Tabs]
abbrev rO (s:Str) (p d:Nat) (b:Bool):AObj:=.cells [T s,I (p:Nat),I (d:Nat),B b]
variable {h:ae}{Q:QT}{i d p:Nat}{s:Str}{b:Bool}
theorem Mh (hs:s.length<1000000000) (e:h[i]?=some (rO s p d b)) (hp:p≤s.length) (k:∀ p' h',p'≤s.length→s.drop p'=blk (s.drop p)→Fr [i] h h'→h'[i]?=some (rO s p' d b)→Q (.tup []) h'):C gN [.ptr i 0] h Q:=by
 refine y1 _ _ _ ?_
 unfold tT
 refine aO (fun n vs h'=>∃ q,vs=[]∧n+q=s.length∧blk (s.drop q)=blk (s.drop p)∧Fr [i] h h'∧h'[i]?=some (rO s q d b)) (s.length-p) ⟨p,rfl,by omega,rfl,Fr.refl _ _,e⟩ ?_
 rintro n vs h1 ⟨q,rfl,hn,hq,f1,e1⟩
 unfold pG
 have st:=St.start1 e1
 (repeat (first|refine au ?_|refine aj ?_|refine aZ ?_|refine aJ ?_|refine ag ‹_› (.head _) rfl ?_))
 refine ah (fun b1=>?_) (fun b1=>?_)<;>simp only[za,zb,zc,zd,ze,zf,zg,zh,zi,u8i,zj,zk,zl]at b1
 ·(repeat (first|refine au ?_|refine aj ?_|refine ag ‹_› (.head _) rfl ?_))
  refine bR (by omega) ?_
  refine aA ?_
  have hd:=Bf (s:=s) (p:=q) (by omega)
  refine ah (fun b2=>?_) (fun b2=>?_)
  ·have b2:s[q]=32:=(TU (n:=32) (by decide)).1 (of_decide_eq_true b2)
   (repeat (first|refine au ?_|refine aj ?_|refine aI (by omega) ?_|refine ag ‹_› (.head _) rfl ?_))
   refine ax st .head rfl rfl rfl (nle rfl) fun h2 s2=>?_
   refine⟨n-1,by omega,q+1,rfl,by omega,?_,f1.trans s2.fr (by simp),s2.get (.head _)⟩
   rw[← hq,hd,b2];rfl
  ·have b2:¬ s[q]=32:=fun h=>of_decide_eq_false b2 ((TU (n:=32) (by decide)).2 h)
   refine k q h1 (by omega) ?_ f1 e1
   rw[← hq,hd]
   show _=iR 32 _
   unfold iR
   rw[if_neg b2]
 ·refine k q h1 (by omega) ?_ f1 e1
  rw[← hq,List.drop_of_length_le (by omega)];rfl
theorem HS {m:Str}(hm:m.length<1000) (hs:s.length<1000000000) (e:h[i]?=some (rO s p d b)) (hp:p≤s.length)
  (k1:m.isPrefixOf (blk (s.drop p))=true→∀ p' h',p'≤s.length→s.drop p'=(blk (s.drop p)).drop m.length→Fr [i] h h'→h'[i]?=some (rO s p' d b)→Q (B true) h')
  (k0:m.isPrefixOf (blk (s.drop p))=false→∀ p' h',p'≤s.length→s.drop p'=blk (s.drop p)→Fr [i] h h'→h'[i]?=some (rO s p' d b)→Q (B false) h'):C cT [.ptr i 0,T m] h Q:=by
 refine Cw _ _ _ _ ?_
 unfold xA
 refine Mh hs e hp fun q h1 hq hd f1 e1=>?_
 have st:=St.start1 e1
 rw[← hd]at k1 k0
 have hlen:(s.drop q).length=s.length-q:=List.length_drop
 (repeat (first|refine au ?_|refine aj ?_|refine aZ ?_|refine bL ?_|refine aI (by omega) ?_|refine ag ‹_› (.head _) rfl ?_))
 refine ah (fun b1=>?_) (fun b1=>?_)<;>simp only[za,zb,zc,zd,ze,zf,zg,zh,zi,u8i,zj,zk,zl]at b1
 ·refine k0 ?_ q h1 hq rfl f1 e1
  cases hx:m.isPrefixOf (s.drop q) with
  | false=>rfl
  | true=>
    have:=(List.isPrefixOf_iff_prefix.1 hx).length_le
    omega
 ·(repeat (first|refine au ?_|refine aj ?_|refine aZ ?_|refine aI (by omega) ?_|refine ag ‹_› (.head _) rfl ?_))
  refine HM (by omega) (by omega) (by omega) ?_
  have ht:(s.drop ((q:Int)).toNat).take (((q:Int)+(m.length:Nat)).toNat-((q:Int)).toNat)=(s.drop q).take m.length:=by
   rw[Int.toNat_natCast,show ((q:Int)+(m.length:Nat)).toNat-q=m.length by omega]
  rw[ht]
  refine pi ?_
  refine ah (fun b2=>?_) (fun b2=>?_)
  ·refine k0 ?_ q h1 hq rfl f1 e1
   cases hx:m.isPrefixOf (s.drop q) with
   | false=>rfl
   | true=>
     have:=List.isPrefixOf_iff_prefix.1 hx
     rw[List.prefix_iff_eq_take]at this
     simp[← this]at b2
  ·have hx:m.isPrefixOf (s.drop q)=true:=by
    rw[List.isPrefixOf_iff_prefix,List.prefix_iff_eq_take]
    exact (by simpa using b2:_=_).symm
   (repeat (first|refine au ?_|refine aj ?_|refine aZ ?_|refine aI (by omega) ?_|refine ag ‹_› (.head _) rfl ?_))
   refine ax st .head rfl rfl rfl (nle rfl) fun h2 s2=>?_
   refine k1 hx (q+m.length) h2 (by omega) (by rw[List.drop_drop]) (f1.trans s2.fr (by simp)) ?_
   have:=s2.get (.head _)
   rw[this]
   show some (AObj.cells [T s,I ((q:Int)+(m.length:Nat)),I (d:Nat),B b])=_
   rw[show ((q:Int)+(m.length:Nat))=((q+m.length:Nat):Int) by omega]
def m8 (base:Nat) (c:UInt8):Bool:=if base=16 then wx c.toNat else bu c.toNat
theorem AM {base:Nat}(hb:base=10∨base=16) (c:UInt8) (k:Q (I (if m8 base c=true then (pt c:Nat) else -1)) h):C lh [U8 c,I (base:Nat)] h Q:=by
 refine Jr _ _ _ _ ?_
 unfold Gw
 have hc:=c.toNat_lt
 have cv97:97≤c.toNat→IntKind.i64.wrap (IntKind.u8.wrap ((c.toNat:Int)-97))=((c.toNat-97:Nat):Int):=fun hm=>by
  have:IntKind.u8.wrap ((c.toNat:Int)-97)=((c.toNat-97:Nat):Int):=by rw[IntKind.wrap_u8];omega
  rw[this];exact uk (by omega)
 have cv48:48≤c.toNat→IntKind.i64.wrap (IntKind.u8.wrap ((c.toNat:Int)-48))=((c.toNat-48:Nat):Int):=fun hm=>by
  have:IntKind.u8.wrap ((c.toNat:Int)-48)=((c.toNat-48:Nat):Int):=by rw[IntKind.wrap_u8];omega
  rw[this];exact uk (by omega)
 have let16:base=16→¬ (48≤c.toNat∧c.toNat≤57)→(ai .geq (U8 c) (.lit (.int .u8 97)) fun t20=>ifB t20 (ai .leq (U8 c) (.lit (.int .u8 102)) fun t24=>ifB t24 (
   ai .sub (U8 c) (.lit (.int .u8 97)) fun t27=>cj .i64 t27 fun t28=>ai .add t28 (I 10) fun t29=>Q t29 h) (Q (I (-1)) h)) (Q (I (-1)) h)):=fun h16 hnd=>by
  refine bz ?_
  refine ah (fun b1=>?_) (fun b1=>?_)<;>simp only[za,zb,zc,zd,ze,zf,zg,zh,zi,u8i,zj,zk,zl]at b1
  ·refine fQ ?_
   refine ah (fun b2=>?_) (fun b2=>?_)<;>simp only[za,zb,zc,zd,ze,zf,zg,zh,zi,u8i,zj,zk,zl]at b2
   ·refine F4 (eF ?_)
    rw[cv97 (by omega)]
    refine aI (by omega) ?_
    have hp:m8 base c=true:=by unfold m8 wx bu;rw[if_pos h16];simp;omega
    rw[if_pos hp]at k
    have hv:pt c=c.toNat-97+10:=by unfold pt;rw[if_pos (by omega)]
    rw[hv]at k
    rw[show ((c.toNat-97:Nat):Int)+10=((c.toNat-97+10:Nat):Int) by omega]
    exact k
   ·have hp:¬ m8 base c=true:=by unfold m8 wx bu;rw[if_pos h16];simp;omega
    rw[if_neg hp]at k
    exact k
  ·have hp:¬ m8 base c=true:=by unfold m8 wx bu;rw[if_pos h16];simp;omega
   rw[if_neg hp]at k
   exact k
 have rest:¬ (48≤c.toNat∧c.toNat≤57)→(ai .eql (I (base:Nat)) (I 16) fun t17=>ifB t17 (ai .geq (U8 c) (.lit (.int .u8 97)) fun t20=>ifB t20 (ai .leq (U8 c) (.lit (.int .u8 102)) fun t24=>ifB t24 (
   ai .sub (U8 c) (.lit (.int .u8 97)) fun t27=>cj .i64 t27 fun t28=>ai .add t28 (I 10) fun t29=>Q t29 h) (Q (I (-1)) h)) (Q (I (-1)) h)) (Q (I (-1)) h)):=fun hnd=>by
  refine aA ?_
  refine ah (fun b0=>?_) (fun b0=>?_)<;>simp only[za,zb,zc,zd,ze,zf,zg,zh,zi,u8i,zj,zk,zl]at b0
  ·exact let16 (by omega) hnd
  ·have hp:¬ m8 base c=true:=by unfold m8 bu;rw[if_neg (by omega)];simp;omega
   rw[if_neg hp]at k
   exact k
 refine bz ?_
 refine ah (fun b1=>?_) (fun b1=>?_)<;>simp only[za,zb,zc,zd,ze,zf,zg,zh,zi,u8i,zj,zk,zl]at b1
 ·refine fQ ?_
  refine ah (fun b2=>?_) (fun b2=>?_)<;>simp only[za,zb,zc,zd,ze,zf,zg,zh,zi,u8i,zj,zk,zl]at b2
  ·refine F4 (eF ?_)
   rw[cv48 (by omega)]
   have hp:m8 base c=true:=by unfold m8 wx bu;split<;>simp<;>omega
   rw[if_pos hp]at k
   have hv:pt c=c.toNat-48:=by unfold pt;rw[if_neg (by omega)]
   rw[hv]at k
   exact k
  ·exact rest (by omega)
 ·exact rest (by omega)
end
end
section
section
variable [Tabs]
variable {h:ae}{Q:QT}{i D p:Nat}{s:Str}{b:Bool}
structure RRes (i:Nat) (s:Str) (D:Nat) (m:Option (Ex×Str)) (h:ae) (Q:QT):Prop where
 good:∀ x p' h',p'≤s.length→m=some (x,s.drop p')→Fr [i] h h'→h'[i]?=some (rO s p' D false)→Q (.agg (br x)) h'
 bad:∀ cs p' h',p'≤s.length→m=none→Fr [i] h h'→h'[i]?=some (rO s p' D true)→cs.length=4→cs.all AV.one=true→Q (.agg cs) h'
def vt (base:Nat) (l:Str):Str:=l.takeWhile (m8 base)
def Ao (base:Nat):PF:=fun l=>if vt base l=[] then none else match qV base (vt base l) 0 with
 | none=>none
 | some n=>some (.num n,l.drop (vt base l).length)
theorem Uw {base q:Nat}(hq:q<s.length):vt base (s.drop q)=if m8 base s[q]=true then s[q]::vt base (s.drop (q+1)) else []:=by
 unfold vt
 rw[Bf hq,List.takeWhile_cons]
theorem Fa {base:Nat}(hb:base=10∨base=16) (hs:s.length<1000000000) (hp:p≤s.length) (e:h[i]?=some (rO s p D false)) (r:RRes i s D (Ao base (s.drop p)) h Q):C fH [.ptr i 0,I (base:Nat)] h Q:=by
 refine wv _ _ _ _ ?_
 unfold qO
 refine aM (St.start1 e) fun q4 h1 s1=>?_
 (repeat (first|refine au ?_|refine aj ?_|refine ag ‹_› (by first|exact .head _|exact .tail _ (.head _)) rfl ?_))
 refine aO (fun n vs h'=>∃ (q m:Nat),vs=[I (m:Nat)]∧m<4294967296∧n+q=s.length∧p≤q∧(vt base (s.drop q)).length+q=(vt base (s.drop p)).length+p∧qV base (vt base (s.drop q)) m=qV base (vt base (s.drop p)) 0∧St h [i] h' [(q4,true,.cells zE),(i,true,rO s q D false)]) (s.length-p) ⟨p,0,rfl,by omega,by omega,Nat.le_refl _,rfl,rfl,s1⟩ ?_
 rintro n vs h2 ⟨q,m,rfl,hm,hn,hpq,hlen,hnum,s2⟩
 unfold mw
 have fin:vt base (s.drop q)=[]→fG (.ptr i 0) h2 (I (p:Nat)) [I (m:Nat)] (.ptr q4 0) Q:=fun hd=>by
  unfold fG
  rw[hd]at hlen hnum
  have hnum:qV base (vt base (s.drop p)) 0=some m:=hnum.symm
  simp only[List.length_nil,Nat.zero_add]at hlen
  have hq:q≤s.length:=by omega
  refine au (aj (ag s2 (.tail _ (.head _)) rfl (aA ?_)))
  refine ah (fun b1=>?_) (fun b1=>?_)<;>simp only[za,zb,zc,zd,ze,zf,zg,zh,zi,u8i,zj,zk,zl]at b1
  ·have he:vt base (s.drop p)=[]:=List.length_eq_zero_iff.1 (by omega)
   have hm0:Ao base (s.drop p)=none:=by unfold Ao;rw[if_pos he]
   refine au (aj ?_)
   refine ax (o:=0+3) s2 (.tail .head) rfl rfl rfl (nle rfl) fun h3 s3=>?_
   unfold eV
   refine aD rfl ?_
   refine aN s3 bc rfl rfl .head fun h4 s4=>?_
   refine aL s4 rfl (.head _) ?_
   exact r.bad _ q _ hq hm0 s4.fr (s4.get (.tail _ (.head _))) rfl rfl
  ·have he:¬ vt base (s.drop p)=[]:=fun h=>by rw[h]at hlen;simp at hlen;omega
   have hm0:Ao base (s.drop p)=some (.num m,s.drop q):=by
    unfold Ao;rw[if_neg he,hnum,List.drop_drop]
    simp only;congr 3;omega
   unfold eV
   refine aD rfl ?_
   refine aN s2 bc rfl rfl .head fun h4 s4=>?_
   refine aL s4 rfl (.head _) ?_
   exact r.good (.num m) q _ hq hm0 s4.fr (s4.get (.tail _ (.head _)))
 (repeat (first|refine au ?_|refine aj ?_|refine aZ ?_|refine aJ ?_|refine ag ‹_› (by first|exact .head _|exact .tail _ (.head _)) rfl ?_))
 refine ah (fun b1=>?_) (fun b1=>?_)<;>simp only[za,zb,zc,zd,ze,zf,zg,zh,zi,u8i,zj,zk,zl]at b1
 ·have hq:q<s.length:=by omega
  have hd:=Uw (base:=base) hq
  refine au (aj (ag s2 (.tail _ (.head _)) rfl (au (aj (ag s2 (.tail _ (.head _)) rfl (bR hq ?_))))))
  refine AM hb s[q] ?_
  refine bz ?_
  refine ah (fun b2=>?_) (fun b2=>?_)<;>simp only[za,zb,zc,zd,ze,zf,zg,zh,zi,u8i,zj,zk,zl]at b2
  ·have hpb:m8 base s[q]=true:=by
    cases hx:m8 base s[q] with
    | true=>rfl
    | false=>rw[hx]at b2;simp at b2
   rw[if_pos hpb]at hd
   rw[hd,List.length_cons]at hlen
   rw[hd,qV]at hnum
   have hbm:((base:Nat):Int)*(m:Nat)=((m*base:Nat):Int):=by rw[Int.mul_comm];simp
   have hdv:=Il (base:=base) (by omega) s[q] m hm
   have hdl:pt s[q]<1000:=by have:=s[q].toNat_lt;unfold pt;split<;>omega
   refine vx (by rw[hbm];omega) ?_
   rw[hbm]
   refine au (aj (ag s2 (.tail _ (.head _)) rfl (au (aj (ag s2 (.tail _ (.head _)) rfl (bR hq ?_))))))
   refine AM hb s[q] ?_
   rw[if_pos hpb]
   refine aI (by omega) ?_
   rw[show ((m*base:Nat):Int)+(pt s[q]:Nat)=((m*base+pt s[q]:Nat):Int) by omega]
   refine au (aj (ag s2 (.tail _ (.head _)) rfl (aI (by omega) (au (aj ?_)))))
   refine ax (o:=0+1) s2 (.tail .head) rfl rfl rfl (nle rfl) fun h3 s3=>?_
   have s3:St h [i] h3 [(q4,true,.cells zE),(i,true,rO s (q+1) D false)]:=s3
   refine bz ?_
   refine ah (fun b3=>?_) (fun b3=>?_)<;>simp only[za,zb,zc,zd,ze,zf,zg,zh,zi,u8i,zj,zk,zl]at b3
   ·rw[if_pos (by omega)]at hnum
    have hm0:Ao base (s.drop p)=none:=by
     unfold Ao;rw[← hnum];split<;>rfl
    refine au (aj ?_)
    refine ax (o:=0+3) s3 (.tail .head) rfl rfl rfl (nle rfl) fun h4 s4=>?_
    refine aD rfl ?_
    refine aN s4 bc rfl rfl .head fun h5 s5=>?_
    refine aL s5 rfl (.head _) ?_
    exact r.bad _ (q+1) _ (by omega) hm0 s5.fr (s5.get (.tail _ (.head _))) rfl rfl
   ·rw[if_neg (by omega)]at hnum
    exact⟨n-1,by omega,q+1,m*base+pt s[q],rfl,by omega,by omega,by omega,by omega,hnum,s3⟩
  ·have hpb:¬ m8 base s[q]=true:=fun h=>by rw[if_pos h]at b2;omega
   rw[if_neg hpb]at hd
   exact fin hd
 ·refine fin ?_
  rw[List.drop_of_length_le (by omega)];rfl
def Ha:PF:=fun l=>if eL (gv l)=true then some (.name (gv l),l.drop (gv l).length) else none
theorem TQ {q:Nat}(hq:q<s.length):gv (s.drop q)=if dp s[q].toNat=true then s[q]::gv (s.drop (q+1)) else []:=by
 unfold gv
 rw[Bf hq,List.takeWhile_cons]
theorem KP (hs:s.length<1000000000) (hp:p≤s.length) (e:h[i]?=some (rO s p D false)) (r:RRes i s D (Ha (s.drop p)) h Q):C gD [.ptr i 0] h Q:=by
 refine y3 _ _ _ ?_
 unfold ut
 refine aM (St.start1 e) fun q4 h1 s1=>?_
 (repeat (first|refine au ?_|refine aj ?_|refine ag ‹_› (by first|exact .head _|exact .tail _ (.head _)) rfl ?_))
 refine aO (fun n vs h'=>∃ q:Nat,vs=[]∧n+q=s.length∧p≤q∧(gv (s.drop q)).length+q=(gv (s.drop p)).length+p∧St h [i] h' [(q4,true,.cells zE),(i,true,rO s q D false)]) (s.length-p) ⟨p,rfl,by omega,Nat.le_refl _,rfl,s1⟩ ?_
 rintro n vs h2 ⟨q,rfl,hn,hpq,hlen,s2⟩
 unfold nq
 have fin:gv (s.drop q)=[]→gL (.ptr i 0) h2 (I (p:Nat)) (.ptr q4 0) Q:=fun hd=>by
  unfold gL
  rw[hd]at hlen
  simp only[List.length_nil,Nat.zero_add]at hlen
  have hq:q≤s.length:=by omega
  have hw:(s.drop ((p:Nat):Int).toNat).take (((q:Nat):Int).toNat-((p:Nat):Int).toNat)=gv (s.drop p):=by
   simp only[Int.toNat_natCast]
   have hpre:gv (s.drop p) <+: s.drop p:=List.takeWhile_prefix _
   rw[List.prefix_iff_eq_take]at hpre
   rw[hpre];congr 1;omega
  refine au (aj (ag s2 (.tail _ (.head _)) rfl (au (aj (ag s2 (.tail _ (.head _)) rfl (HM (by omega) (by omega) (by omega) ?_))))))
  rw[hw]
  refine P2 _ (by have:=(List.takeWhile_sublist (fun c:UInt8=>dp c.toNat) (l:=s.drop p)).length_le;unfold gv;simp at this ⊢;omega) ?_
  refine bi ?_
  have tail:∀ (b:Bool) (h3:ae),St h [i] h3 [(q4,true,.cells zE),(i,true,rO s q D b)]→(∀ h',St h [i] h' [(q4,true,.cells (br (.name (gv (s.drop p))))),(i,true,rO s q D b)]→Q (.agg (br (.name (gv (s.drop p))))) h')→co (I (p:Nat)) (.ptr q4 0) (.ptr i 0) h3 Q:=fun b h3 s3 k=>by
   unfold co
   refine au (aj (ag s3 (.tail _ (.head _)) rfl (au (aj (ag s3 (.tail _ (.head _)) rfl (HM (by omega) (by omega) (by omega) ?_))))))
   rw[hw]
   refine aD rfl ?_
   refine aN s3 bc rfl rfl .head fun h4 s4=>?_
   refine aL s4 rfl (.head _) ?_
   exact k _ s4
  refine ah (fun b1=>?_) (fun b1=>?_)<;>simp only[za,zb,zc,zd,ze,zf,zg,zh,zi,u8i,zj,zk,zl]at b1
  ·have hm0:Ha (s.drop p)=none:=by unfold Ha;rw[if_neg (by rw[b1];simp)]
   refine au (aj ?_)
   refine ax (o:=0+3) s2 (.tail .head) rfl rfl rfl (nle rfl) fun h3 s3=>?_
   refine tail true h3 s3 fun h' s'=>?_
   exact r.bad _ q _ hq hm0 s'.fr (s'.get (.tail _ (.head _))) rfl rfl
  ·have hm0:Ha (s.drop p)=some (.name (gv (s.drop p)),s.drop q):=by
    unfold Ha;rw[if_pos b1,List.drop_drop];congr 3;omega
   refine tail false h2 s2 fun h' s'=>?_
   exact r.good _ q _ hq hm0 s'.fr (s'.get (.tail _ (.head _)))
 have next:q<s.length→dp (s[q]?.getD 0).toNat=true→dK (.ptr i 0) h2 (fun vs' h'=>∃ m,m<n∧∃ q:Nat,vs'=[]∧m+q=s.length∧p≤q∧(gv (s.drop q)).length+q=(gv (s.drop p)).length+p∧St h [i] h' [(q4,true,.cells zE),(i,true,rO s q D false)]):=fun hq hi=>by
  unfold dK
  have hd:=TQ hq
  rw[List.getElem?_eq_getElem hq]at hi
  have hi:dp s[q].toNat=true:=hi
  rw[if_pos hi]at hd
  rw[hd,List.length_cons]at hlen
  refine au (aj (ag s2 (.tail _ (.head _)) rfl (aI (by omega) (au (aj ?_)))))
  refine ax (o:=0+1) s2 (.tail .head) rfl rfl rfl (nle rfl) fun h3 s3=>?_
  exact⟨n-1,by omega,q+1,rfl,by omega,by omega,by omega,s3⟩
 (repeat (first|refine au ?_|refine aj ?_|refine aZ ?_|refine aJ ?_|refine ag ‹_› (by first|exact .head _|exact .tail _ (.head _)) rfl ?_))
 refine ah (fun b1=>?_) (fun b1=>?_)
 ·have hq:q<s.length:=by have:=of_decide_eq_true b1;omega
  have hd:=TQ hq
  have hg:s[q]?.getD 0=s[q]:=by rw[List.getElem?_eq_getElem hq];rfl
  rw[hg]at next
  have next:=next hq
  have hin:dp s[q].toNat=(decide (97≤s[q].toNat)&&decide (s[q].toNat≤122)||decide (s[q].toNat=95)||(decide (48≤s[q].toNat)&&decide (s[q].toNat≤57))):=rfl
  have c2:¬ (97≤s[q].toNat∧s[q].toNat≤122)→¬ (48≤s[q].toNat∧s[q].toNat≤57)→eR (.ptr i 0) h2 (fun vs' h'=>∃ m,m<n∧∃ q:Nat,vs'=[]∧m+q=s.length∧p≤q∧(gv (s.drop q)).length+q=(gv (s.drop p)).length+p∧St h [i] h' [(q4,true,.cells zE),(i,true,rO s q D false)]) (I (p:Nat)) (.ptr q4 0) Q:=fun h1 h2'=>by
   unfold eR
   refine au (aj (ag s2 (.tail _ (.head _)) rfl (au (aj (ag s2 (.tail _ (.head _)) rfl (bR hq ?_))))))
   refine aA ?_
   refine ah (fun b5=>?_) (fun b5=>?_)<;>simp only[za,zb,zc,zd,ze,zf,zg,zh,zi,u8i,zj,zk,zl]at b5
   ·exact next (by rw[hin];simp;omega)
   ·refine fin ?_
    rw[hd,if_neg (by rw[hin];simp;omega)]
  have c1:¬ (97≤s[q].toNat∧s[q].toNat≤122)→eT (.ptr i 0) h2 (fun vs' h'=>∃ m,m<n∧∃ q:Nat,vs'=[]∧m+q=s.length∧p≤q∧(gv (s.drop q)).length+q=(gv (s.drop p)).length+p∧St h [i] h' [(q4,true,.cells zE),(i,true,rO s q D false)]) (I (p:Nat)) (.ptr q4 0) Q:=fun h1=>by
   unfold eT
   refine au (aj (ag s2 (.tail _ (.head _)) rfl (au (aj (ag s2 (.tail _ (.head _)) rfl (bR hq ?_))))))
   refine bz ?_
   refine ah (fun b3=>?_) (fun b3=>?_)<;>simp only[za,zb,zc,zd,ze,zf,zg,zh,zi,u8i,zj,zk,zl]at b3
   ·refine au (aj (ag s2 (.tail _ (.head _)) rfl (au (aj (ag s2 (.tail _ (.head _)) rfl (bR hq ?_))))))
    refine fQ ?_
    refine ah (fun b4=>?_) (fun b4=>?_)<;>simp only[za,zb,zc,zd,ze,zf,zg,zh,zi,u8i,zj,zk,zl]at b4
    ·exact next (by rw[hin];simp;omega)
    ·exact c2 h1 (by omega)
   ·exact c2 h1 (by omega)
  refine au (aj (ag s2 (.tail _ (.head _)) rfl (au (aj (ag s2 (.tail _ (.head _)) rfl (bR hq ?_))))))
  refine bz ?_
  refine ah (fun b2=>?_) (fun b2=>?_)<;>simp only[za,zb,zc,zd,ze,zf,zg,zh,zi,u8i,zj,zk,zl]at b2
  ·refine au (aj (ag s2 (.tail _ (.head _)) rfl (au (aj (ag s2 (.tail _ (.head _)) rfl (bR hq ?_))))))
   refine fQ ?_
   refine ah (fun b3=>?_) (fun b3=>?_)<;>simp only[za,zb,zc,zd,ze,zf,zg,zh,zi,u8i,zj,zk,zl]at b3
   ·exact next (by rw[hin];simp;omega)
   ·exact c1 (by omega)
  ·exact c1 (by omega)
 ·refine fin ?_
  have:=of_decide_eq_false b1
  rw[List.drop_of_length_le (by omega)];rfl
