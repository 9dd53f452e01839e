import Derived.Test.YtbhphjpgjgigpaaGreatDoorAA4toAA12
import Derived.Test.YtbhphjpgjgigpaaGreatDoorSBtoAI2
set_option linter.all false
set_option autoImplicit true
set_option relaxedAutoImplicit true
set_option maxRecDepth 100000
namespace Go.Proofs.YtbhphjpgjgigpaaGreatDoor.AL
noncomputable section
section
abbrev Fg:=Str×Str
def frE (x:Fg):List AV:=[T x.1,T x.2]
def UD (f:Str→Option Int) (y:Sy):Str→Option Int:=upd f y.1 y.2
def gv (syms:List Sy):Str→Option Int:=syms.foldl UD fun _=>none
def mkE (n:Str) (x:Sm):En:=⟨n,x,0,false⟩
section
variable [Tabs]
def rn (x:Fg):List En:=(ng x.2).map (mkE x.1)
def uP (x:Fg):List Dg:=(nD x.2).map fun k=>(x.1,k,1)
def ck (l:List Fg):List En:=l.flatMap rn
def mw (l:List Fg):List Dg:=l.flatMap uP
variable {h0 h h':ab}{M:List Nat}{Q:QT}{K:AV→Prop}{KS:ab→Prop}
variable {i js:Nat}{l:List (Nat×En)}{ds:List Dg}{lv dv kn:AV}{sz:Int}{kvs:KV}{EL ED R:Own}
theorem SS.subK {kvs':KV}:Sub (ED++((i,true,d8 lv js kn dv sz)::(js,true,bu kvs)::(EL++(cj l++R)))) (js,true,bu kvs) (ED++((i,true,d8 lv js kn dv sz)::(js,true,bu kvs')::(EL++(cj l++R)))) (js,true,bu kvs'):=Sub.pre (.tail .head) _
theorem Sn {e:En}{p:Nat}(hl:l.length<1000000000) (s:SS h0 M h i js l ds lv dv kn sz kvs EL ED ((p,true,.cells (enE e))::R))
  (k:∀ lv' EL' h',SS h0 M h' i js (l++[(p,e)]) ds lv' dv kn sz kvs EL' ED R→KS h'):bL 1 8 lv (.full 1 [.ptr p 0]) h fun t63 h14=>aJ (.ptr i 0) fun t64=>ae 0 t64 fun t65=>aw 1 t65 t63 h14 KS:=by
 have hz:cj l++((p,true,AObj.cells (enE e))::R)=cj (l++[(p,e)])++R:=by simp[cj]
 have hx:∀ (lv:AV) (EL:Own),(ED++((i,true,d8 lv js kn dv sz)::(js,true,bu kvs)::(EL++(cj (l++[(p,e)])++R))))=(ED++[(i,true,d8 lv js kn dv sz),(js,true,bu kvs)])++(EL++(cj (l++[(p,e)])++R)):=fun lv EL=>by simp
 have hy:∀ (lv:AV),(ED++((i,true,d8 lv js kn dv sz)::(js,true,bu kvs)::(cj (l++[(p,e)])++R)))=(ED++[(i,true,d8 lv js kn dv sz),(js,true,bu kvs)])++(cj (l++[(p,e)])++R):=fun lv=>by simp
 have hs:=s.st
 rw[hz,hx]at hs
 refine s.al.app (hs.perm (List.perm_append_comm_assoc _ _ _)) (xs:=pE (p,e)) (m:=1) (Rd.full rfl) rfl (by omega) fun lv' EL' h1 a1 s1=>?_
 rw[← hy]at s1
 refine aq (an ?_)
 refine xJ (L':=EL'++(ED++((i,true,d8 lv' js kn dv sz)::(js,true,bu kvs)::(cj (l++[(p,e)])++R)))) a1.v1 s1 (Sub.pre (Sub.pre .head _) _) (nle rfl) fun h2 s2=>?_
 rw[hy]at s2
 refine k lv' EL' h2 ⟨by simpa using a1,s.ad,?_⟩
 rw[hx]
 exact s2.perm (List.perm_append_comm_assoc _ _ _)
theorem rG {α β:Type}(g:α→List β) (l:List α) (q:Nat):((l.take q).flatMap g).length≤(l.flatMap g).length:=by
 conv=>rhs;rw[← List.take_append_drop q l]
 rw[List.flatMap_append,List.length_append];omega
theorem gQ {α β:Type}(g:α→List β) {l:List α}{q:Nat}(hq:q<l.length):(l.take (q+1)).flatMap g=(l.take q).flatMap g++g l[q]:=by
 rw[List.take_succ_eq_append_getElem hq,List.flatMap_append,List.flatMap_cons,List.flatMap_nil,List.append_nil]
theorem Ti (hF:ct) (hI:gf) (hA:iG) {frags:List Fg}{syms:List Sy}{fv sv:AV}(rf:Row frE 2 h fv frags) (rs:Row syE 2 h sv syms) (hfl:frags.length<1000000) (hsl:syms.length<1000000) (he:(ck frags).length<100000) (hd:(mw frags).length<1000000) (ht:∀ x∈frags,x.2.length<1000000000)
  (k:∀ i js l lv dv kvs EL ED h',l.map (·.2)=ck frags→(bK kvs).Nodup→(∀ k,bp k kvs=gv syms k)→SS h [] h' i js l (mw frags) lv dv (.lit (.map none)) 0 kvs EL ED []→Q (.ptr i 0) h'):C tk [fv,sv] h Q:=by
 refine He _ _ _ _ ?_
 unfold GH
 refine vz (St.start h) fun js h1 s1=>?_
 refine aO rfl ?_
 refine dF s1 rfl fun i h2 s2=>?_
 have s2:SS h [] h2 i js [] [] (.full 0 []) (.full 0 []) (.lit (.map none)) 0 [] [] [] []:=⟨.none 1,.none 3,s2⟩
 refine rs.len ?_
 refine aR (fun n vs h'=>∃ (q:Nat) (kvs:KV),vs=[I (q:Nat)]∧n+q=syms.length∧(bK kvs).Nodup∧(∀ k,bp k kvs=((syms.take q).foldl UD fun _=>none) k)∧SS h [] h' i js [] [] (.full 0 []) (.full 0 []) (.lit (.map none)) 0 kvs [] [] []) syms.length ⟨0,[],rfl,by omega,by simp[bK],fun k=>rfl,s2⟩ ?_
 rintro n vs h3 ⟨q,kvs,rfl,hn,nd,hf,s3⟩
 unfold wU
 (repeat refine aP ?_)
 refine ag (fun hq=>?_) (fun hq=>?_)<;>simp only[za,zb,zc,zd,ze,zf,zg,zh,zi,u8i,zj,zk,zl]at hq
 ·have hq:q<syms.length:=hq
  refine (rs.fr s3.st.fr).idx (fun _=>rfl) hq fun p t=>?_
  refine cb t rfl ?_
  refine bk s3.st fun t7 h4 s4=>?_
  have s4:=s3.front s4
  refine aF (L':=[]++((i,true,d8 (.full 0 []) js (.lit (.map none)) (.full 0 []) 0)::(js,true,bu kvs)::([]++(cj []++((t7,true,.cells (syE syms[q]))::[]))))) (cs:=[T [],I 0]) s4.st (SS.subR .head) rfl rfl rfl (nle rfl) fun h5 s5=>?_
  have s5:SS h [] h5 i js [] [] (.full 0 []) (.full 0 []) (.lit (.map none)) 0 kvs [] [] [(t7,true,.cells (syE syms[q]))]:=⟨.none 1,.none 3,s5⟩
  have si:=St.startr s5.src
  refine aq (an (aj si (.head _) rfl (an (aj s5.st (SS.memR (.head _)) rfl (an (aj s5.st (SS.memR (.head _)) rfl ?_))))))
  refine pU s5.st SS.subK fun h6 s6=>?_
  refine aH (by omega) ?_
  have s6:SS h [] h6 i js [] [] (.full 0 []) (.full 0 []) (.lit (.map none)) 0 (nC syms[q].1 syms[q].2 kvs) [] [] [(t7,true,.cells (syE syms[q]))]:=⟨.none 1,.none 3,s6⟩
  refine⟨n-1,by omega,q+1,_,rfl,by omega,nB nd,fun k=>?_,s6.unR (List.nil_sublist _)⟩
  rw[List.take_succ_eq_append_getElem hq,List.foldl_append,k8,hf];rfl
 ·have hq:q=syms.length:=by omega
  subst hq
  rw[List.take_length]at hf
  refine (rf.fr s3.st.fr).len ?_
  refine aR (fun n vs h'=>∃ (q:Nat) (l:List (Nat×En)) (lv dv:AV) (EL ED:Own),vs=[I (q:Nat)]∧n+q=frags.length∧l.map (·.2)=(frags.take q).flatMap rn∧SS h [] h' i js l ((frags.take q).flatMap uP) lv dv (.lit (.map none)) 0 kvs EL ED []) frags.length ⟨0,[],.full 0 [],.full 0 [],[],[],rfl,by omega,rfl,s3⟩ ?_
  rintro n vs h4 ⟨q,l,lv,dv,EL,ED,rfl,hn,hel,s4⟩
  unfold wy
  (repeat refine aP ?_)
  refine ag (fun hq=>?_) (fun hq=>?_)<;>simp only[za,zb,zc,zd,ze,zf,zg,zh,zi,u8i,zj,zk,zl]at hq
  ·have hq:q<frags.length:=hq
   refine (rf.fr s4.st.fr).idx (fun _=>rfl) hq fun p t=>?_
   refine cb t rfl ?_
   have htl:=ht _ (List.getElem_mem hq)
   have hle:=rG rn frags (q+1)
   have hld:=rG uP frags (q+1)
   rw[gQ rn hq,List.length_append]at hle
   rw[gQ uP hq,List.length_append]at hld
   have hll:l.length=((frags.take q).flatMap rn).length:=by rw[← hel];simp
   have he':(frags.flatMap rn).length<100000:=he
   have hd':(frags.flatMap uP).length<1000000:=hd
   have hle:=Nat.lt_of_le_of_lt hle he'
   have hld:=Nat.lt_of_le_of_lt hld hd'
   have hsE:=gQ rn hq
   have hsD:=gQ uP hq
   have hfrE:rn frags[q]=(ng frags[q].2).map (mkE frags[q].1):=rfl
   have hfrD:uP frags[q]=(nD frags[q].2).map fun k=>(frags[q].1,k,1):=rfl
   rw[hfrE]at hle hsE
   rw[hfrD]at hld hsD
   generalize hfr:frags[q]=fr at htl hle hld hsE hsD ⊢
   generalize hpe:(frags.take q).flatMap rn=pe at hel hle hll hsE
   generalize hpd:(frags.take q).flatMap uP=pd at s4 hld hsD
   refine bk s4.st fun t9 h5 s5=>?_
   have s5:=s4.front s5
   refine aF (L':=ED++((i,true,d8 lv js (.lit (.map none)) dv 0)::(js,true,bu kvs)::(EL++(cj l++((t9,true,.cells (frE fr))::[]))))) (cs:=[T [],T []]) s5.st (SS.subR .head) rfl rfl rfl (nle rfl) fun h6 s6=>?_
   have s6:SS h [] h6 i js l pd lv dv (.lit (.map none)) 0 kvs EL ED [(t9,true,.cells (frE fr))]:=⟨s4.al,s4.ad,s6⟩
   refine an (aj s6.st (SS.memR (.head _)) rfl ?_)
   refine Gx hF hI hA fr.2 htl fun h7 f7=>?_
   have s7:=s6.call f7
   refine ax rfl (ax rfl ?_)
   have RS:∀ h,Row smF 6 h (.snap (ng fr.2).length ((ng fr.2).flatMap smF)) (ng fr.2):=fun h=>Row.snap (enc:=smF) (fun _=>rfl) _
   have RB:∀ h,Row nE 1 h (.snap (nD fr.2).length ((nD fr.2).flatMap nE)) (nD fr.2):=fun h=>Row.snap (enc:=nE) (fun _=>rfl) _
   rw[List.length_map]at hle hld
   generalize ng fr.2=ps at RS hle hsE ⊢
   generalize nD fr.2=pb at RB hld hsD ⊢
   refine (RS h7).len ?_
   refine aR (fun n2 vs h'=>∃ (j:Nat) (l:List (Nat×En)) (lv:AV) (EL:Own),vs=[I (j:Nat)]∧n2+j=ps.length∧l.map (·.2)=pe++(ps.take j).map (mkE fr.1)∧SS h [] h' i js l pd lv dv (.lit (.map none)) 0 kvs EL ED [(t9,true,.cells (frE fr))]) ps.length ⟨0,l,lv,EL,rfl,by omega,by simpa using hel,s7⟩ ?_
   rintro n2 vs h8 ⟨j,l8,lv8,EL8,rfl,hn2,hel8,s8⟩
   unfold wb
   have hl8:l8.length≤100000:=by
    have:=congrArg List.length hel8
    simp only[List.length_map,List.length_append,List.length_take]at this
    omega
   (repeat refine aP ?_)
   refine ag (fun hj=>?_) (fun hj=>?_)<;>simp only[za,zb,zc,zd,ze,zf,zg,zh,zi,u8i,zj,zk,zl]at hj
   ·have hj:j<ps.length:=hj
    refine (RS h8).idx (fun _=>rfl) hj fun p t=>?_
    refine cb t rfl ?_
    refine bk s8.st fun t13 h9 s9=>?_
    have s9:=s8.front s9
    refine aF (L':=ED++((i,true,d8 lv8 js (.lit (.map none)) dv 0)::(js,true,bu kvs)::(EL8++(cj l8++((t13,true,.cells (smF ps[j]))::(t9,true,.cells (frE fr))::[]))))) (cs:=[I 0,T [],I 0,I 0,T [],.full 0 []]) s9.st (SS.subR .head) rfl rfl rfl (nle rfl) fun h10 s10=>?_
    have s10:SS h [] h10 i js l8 pd lv8 dv (.lit (.map none)) 0 kvs EL8 ED [(t13,true,.cells (smF ps[j])),(t9,true,.cells (frE fr))]:=⟨s8.al,s8.ad,s10⟩
    have si:=St.startr s10.src
    refine aq (an (aj si (.head _) rfl (an (aj s10.st (SS.memR (.tail _ (.head _))) rfl ?_))))
    refine aW s10.st (SS.memR (.head _)) (nle rfl) ?_
    refine aO rfl ?_
    refine dF s10.st rfl fun p11 h11 s11=>?_
    have s11:SS h [] h11 i js l8 pd lv8 dv (.lit (.map none)) 0 kvs EL8 ED ((p11,true,.cells (enE (mkE fr.1 ps[j])))::[(t13,true,.cells (smF ps[j])),(t9,true,.cells (frE fr))]):=s10.front s11
    have si11:=St.startr s11.src
    refine⟨aj si11 (.head _) rfl rfl,aG rfl rfl ?_⟩
    refine Sn (e:=mkE fr.1 ps[j]) (p:=p11) (by omega) s11 fun lv' EL' h12 s12=>?_
    refine aH (by omega) ?_
    refine⟨n2-1,by omega,j+1,l8++[(p11,mkE fr.1 ps[j])],lv',EL',rfl,by omega,?_,s12.unR (List.sublist_cons_self _ _)⟩
    rw[List.map_append,hel8,List.take_succ_eq_append_getElem hj,List.map_append,List.append_assoc];rfl
   ·have hj:j=ps.length:=by omega
    subst hj
    rw[List.take_length]at hel8
    refine (RB h8).len ?_
    refine aR (fun n3 vs h'=>∃ (b:Nat) (dv:AV) (ED:Own),vs=[I (b:Nat)]∧n3+b=pb.length∧SS h [] h' i js l8 (pd++(pb.take b).map fun k=>(fr.1,k,1)) lv8 dv (.lit (.map none)) 0 kvs EL8 ED [(t9,true,.cells (frE fr))]) pb.length ⟨0,dv,ED,rfl,by omega,by simpa using s8⟩ ?_
    rintro n3 vs h9 ⟨b,dv9,ED9,rfl,hn3,s9⟩
    unfold w4
    (repeat refine aP ?_)
    refine ag (fun hb=>?_) (fun hb=>?_)<;>simp only[za,zb,zc,zd,ze,zf,zg,zh,zi,u8i,zj,zk,zl]at hb
    ·have hb:b<pb.length:=hb
     refine (RB h9).idx (fun _=>rfl) hb fun p t=>?_
     refine aE t ?_
     refine an (aj s9.st (SS.memR (.head _)) rfl ?_)
     refine wO (by simp;omega) s9 fun dv' ED' h10 s10=>?_
     refine aH (by omega) ?_
     refine⟨n3-1,by omega,b+1,dv',ED',rfl,by omega,?_⟩
     rw[List.take_succ_eq_append_getElem hb,List.map_append,← List.append_assoc];exact s10
    ·have hb:b=pb.length:=by omega
     subst hb
     rw[List.take_length]at s9
     refine aH (by omega) ?_
     refine⟨n-1,by omega,q+1,l8,lv8,dv9,EL8,ED9,rfl,by omega,?_,?_⟩
     ·rw[hsE];exact hel8
     ·rw[hsD];exact s9.unR (List.nil_sublist _)
  ·have hq:q=frags.length:=by omega
   subst hq
   rw[List.take_length]at hel s4
   exact k i js l lv dv kvs EL ED h4 hel nd hf s4
end
end
section
section
variable [Tabs]
def cG (frags:List Fg) (syms:List Sy):Pl:=dk (gv syms) (ck frags).length (ck frags)
def ix (frags:List Fg) (syms:List Sy):List Dg:=
 if mw frags≠[] then mw frags
 else if qO (gv syms) (ck frags)≠[] then qO (gv syms) (ck frags)
 else if (ck frags).flatMap (szD (gv syms))≠[] then (ck frags).flatMap (szD (gv syms))
 else if 4096<(cG frags syms).2.2 then [([],0,8)]
 else (cG frags syms).1.flatMap (chD (cG frags syms).2.1 (cG frags syms).1)
def qL (frags:List Fg) (syms:List Sy):List Int:=(cG frags syms).1.flatMap (gz (gv syms) (cG frags syms).2.1)
structure Few (frags:List Fg) (syms:List Sy):Prop where
 nf:frags.length<1000000
 ns:syms.length<1000000
 ents:(ck frags).length<100000
 bads:(mw frags).length<1000000
 texts:∀ x∈frags,x.2.length<1000000000
 wf:∀ e∈ck frags,WfS e.x.2
variable {h0 h h':ab}{M:List Nat}{Q:QT}{K:AV→Prop}{KS:ab→Prop}
theorem LG (hF:ct) (hI:gf) (hA:iG) (hL:dq) {frags:List Fg}{syms:List Sy}{fv sv:AV}(rf:Row frE 2 h fv frags) (rs:Row syE 2 h sv syms) (hw:Few frags syms)
  (kb:ix frags syms≠[]→∀ i js l lv dv kn sz kvs EL ED R h',SS h [] h' i js l (ix frags syms) lv dv kn sz kvs EL ED R→Q (.ptr i 0) h')
  (kg:ix frags syms=[]→∀ i js l lv dv jk kvk kvs EL ED R h',l.map (·.2)=(cG frags syms).1→(∀ x∈l,PlE x.2∧SzOk (gv syms) x.2)→(bK kvs).Nodup→(∀ k,bp k kvs=gv syms k)→(bK kvk).Nodup→(∀ k,bp k kvk=(cG frags syms).2.1 k)→
   SS h [] h' i js l [] lv dv (.map jk) (cG frags syms).2.2 kvs EL ED ((jk,true,bu kvk)::R)→Q (.ptr i 0) h'):C nT [fv,sv] h Q:=by
 refine Hu _ _ _ _ ?_
 unfold GY
 refine Ti hF hI hA rf rs hw.nf hw.ns hw.ents hw.bads hw.texts fun i js l lv dv kvs EL ED h1 hel nd hf s1=>?_
 have hlen:l.length=(ck frags).length:=by rw[← hel];simp
 have hents:=hw.ents
 have hwl:∀ x∈l,WfS x.2.x.2:=fun x hx=>hw.wf _ (by rw[← hel];exact List.mem_map.2 ⟨x,hx,rfl⟩)
 refine aG rfl rfl ?_
 refine ep ?_
 refine G9 10 ?_
 unfold ix at kb kg
 refine uT ?_
 unfold yP
 refine aP (ag (fun _=>?_) (fun h=>by cases h))
 refine wR (h:=h1) (sz:=1) (n:=4) (cs:=[(.fn (.func cf) [.ptr i 0] []),(.fn (.func ce) [.ptr i 0] []),(.fn (.func bT) [.ptr i 0] []),(.fn (.func cc) [.ptr i 0] [])]) (Rd.full rfl) (j:=0) (by decide) fun p t=>?_
 refine aE t ?_
 clear t
 have si:=St.startr s1.src
 refine aq (an (aj si (.head _) rfl ?_))
 refine mX (s1.ad.rd s1.st) ?_
 clear si
 refine cO ?_
 refine ag (fun h0=>?_) (fun h0=>?_)<;>simp only[za,zb,zc,zd,ze,zf,zg,zh,zi,u8i,zj,zk,zl]at h0
 ·have hne:mw frags≠[]:=by intro h;rw[h]at h0;simp at h0
  unfold g5 jG
  rw[if_pos hne]at kb
  exact kb hne _ _ _ _ _ _ _ _ _ _ _ _ s1
 have hn0:mw frags=[]:=by
  cases hd:mw frags with
  | nil=>rfl
  | cons a b=>rw[hd]at h0;simp at h0
 rw[hn0]at s1 kb kg
 rw[if_neg (by simp)]at kb kg
 show C cf [.ptr i 0] h1 _
 refine Qv (by omega) rfl s1 nd hf fun dv2 ED2 h2 s2=>?_
 rw[hel]at s2
 refine aH (by decide) (oF (uT ?_))
 refine aP (ag (fun _=>?_) (fun h=>by cases h))
 refine wR (h:=h2) (sz:=1) (n:=4) (cs:=[(.fn (.func cf) [.ptr i 0] []),(.fn (.func ce) [.ptr i 0] []),(.fn (.func bT) [.ptr i 0] []),(.fn (.func cc) [.ptr i 0] [])]) (Rd.full rfl) (j:=1) (by decide) fun p t=>?_
 refine aE t ?_
 clear t
 have si:=St.startr s2.src
 refine aq (an (aj si (.head _) rfl ?_))
 refine mX (s2.ad.rd s2.st) ?_
 clear si
 refine cO ?_
 refine ag (fun h0=>?_) (fun h0=>?_)<;>simp only[za,zb,zc,zd,ze,zf,zg,zh,zi,u8i,zj,zk,zl]at h0
 ·have hne:qO (gv syms) (ck frags)≠[]:=by intro h;rw[h]at h0;simp at h0
  unfold g5 jG
  rw[if_pos hne]at kb
  exact kb hne _ _ _ _ _ _ _ _ _ _ _ _ s2
 have hn1:qO (gv syms) (ck frags)=[]:=by
  cases hd:qO (gv syms) (ck frags) with
  | nil=>rfl
  | cons a b=>rw[hd]at h0;simp at h0
 rw[hn1]at s2 kb kg
 rw[if_neg (by simp)]at kb kg
 show C ce [.ptr i 0] h2 _
 refine PZ (f:=gv syms) (by omega) rfl s2 nd hf hwl fun dv3 ED3 h3 s3=>?_
 rw[hel]at s3
 refine aH (by decide) (oF (uT ?_))
 refine aP (ag (fun _=>?_) (fun h=>by cases h))
 refine wR (h:=h3) (sz:=1) (n:=4) (cs:=[(.fn (.func cf) [.ptr i 0] []),(.fn (.func ce) [.ptr i 0] []),(.fn (.func bT) [.ptr i 0] []),(.fn (.func cc) [.ptr i 0] [])]) (Rd.full rfl) (j:=2) (by decide) fun p t=>?_
 refine aE t ?_
 clear t
 have si:=St.startr s3.src
 refine aq (an (aj si (.head _) rfl ?_))
 refine mX (s3.ad.rd s3.st) ?_
 clear si
 refine cO ?_
 refine ag (fun h0=>?_) (fun h0=>?_)<;>simp only[za,zb,zc,zd,ze,zf,zg,zh,zi,u8i,zj,zk,zl]at h0
 ·have hne:(ck frags).flatMap (szD (gv syms))≠[]:=by intro h;rw[h]at h0;simp at h0
  unfold g5 jG
  rw[if_pos hne]at kb
  exact kb hne _ _ _ _ _ _ _ _ _ _ _ _ s3
 have hn2:(ck frags).flatMap (szD (gv syms))=[]:=by
  cases hd:(ck frags).flatMap (szD (gv syms)) with
  | nil=>rfl
  | cons a b=>rw[hd]at h0;simp at h0
 rw[hn2]at s3 kb kg
 rw[if_neg (by simp)]at kb kg
 have hsz:∀ x∈l,SzOk (gv syms) x.2:=fun x hx=>TF (by
  rw[List.flatMap_eq_nil_iff]at hn2
  exact hn2 _ (by rw[← hel];exact List.mem_map.2 ⟨x,hx,rfl⟩))
 show C bT [.ptr i 0] h3 _
 refine Ng hF hL (by omega) nd hf hwl hsz rfl s3 fun l4 jk kv4 dv4 ED4 h4 hm4 he4 hw4 nd4 hf4 s4=>?_
 have hP:dk (gv syms) l.length (l.map (·.2))=cG frags syms:=by rw[hel,hlen];rfl
 rw[hP]at he4 hf4 s4
 have hlen4:l4.length=l.length:=by simpa using congrArg List.length hm4
 refine aH (by decide) (oF (uT ?_))
 refine aP (ag (fun _=>?_) (fun h=>by cases h))
 refine wR (h:=h4) (sz:=1) (n:=4) (cs:=[(.fn (.func cf) [.ptr i 0] []),(.fn (.func ce) [.ptr i 0] []),(.fn (.func bT) [.ptr i 0] []),(.fn (.func cc) [.ptr i 0] [])]) (Rd.full rfl) (j:=3) (by decide) fun p t=>?_
 refine aE t ?_
 clear t
 have si:=St.startr s4.src
 refine aq (an (aj si (.head _) rfl ?_))
 refine mX (s4.ad.rd s4.st) ?_
 clear si
 by_cases hbig:4096<(cG frags syms).2.2
 ·rw[if_pos hbig]at s4 kb ⊢
  refine cO (ag (fun _=>?_) (fun h=>by cases h))
  unfold g5 jG
  exact kb (by simp) _ _ _ _ _ _ _ _ _ _ _ _ s4
 rw[if_neg hbig]at s4 kb kg ⊢
 refine cO (ag (fun h=>by cases h) (fun _=>?_))
 show C cc [.ptr i 0] h4 _
 refine PP hF hL (by omega) s4 rfl (.head _) nd4 hf4 (fun x hx=>(hw4 x hx).1) fun dv5 ED5 h5 s5=>?_
 rw[he4]at s5
 refine aH (by decide) (oF (uT ?_))
 refine aP (ag (fun h=>by cases h) (fun _=>?_))
 unfold g5 jG
 by_cases hch:(cG frags syms).1.flatMap (chD (cG frags syms).2.1 (cG frags syms).1)=[]
 ·rw[hch]at s5
  exact kg hch _ _ _ _ _ _ _ _ _ _ _ _ he4 hw4 nd hf nd4 hf4 s5
 ·exact kb hch _ _ _ _ _ _ _ _ _ _ _ _ s5
end
end
section
section
variable [Tabs]
theorem Ql {f:Str→Option Int}{es:List En}{e:En}(h:chD f es e=[]):(aU e.place f e.x.2.args).2=0∧(cm e→e.place.tmod 2=0∧(fM (bt e) (dx e.place (cS (aZ (bt e))) (aU e.place f e.x.2.args).1)).isSome=true):=by
 unfold chD at h
 split at h
 ·cases h
 rename_i hw
 simp only[ne_eq,Classical.not_not]at hw
 unfold vO at hw
 split at hw
 ·cases hw
 rename_i h1
 split at hw
 ·cases hw
 split at hw
 ·rename_i h3;exact (h3 hw).elim
 rename_i h3
 simp only[ne_eq,Classical.not_not]at h3
 refine⟨h3,fun hc=>?_⟩
 split at hw
 ·cases hw
 rename_i h4
 refine⟨?_,?_⟩
 ·by_cases h:e.place.tmod 2=0
  ·exact h
  ·exact (h1 ⟨hc,h⟩).elim
 ·cases hcc:(fM (bt e) (dx e.place (cS (aZ (bt e))) (aU e.place f e.x.2.args).1)).isSome with
  | true=>rfl
  | false=>exact (h4 ⟨hc,hcc⟩).elim
theorem Et {op:Nat}{vs:List Int}:(CY op vs).isSome=(fM op vs).isSome:=by unfold CY;cases fM op vs<;>rfl
theorem PX {op:Nat}{vs bs:List Int}(h:CY op vs=some bs):bs.length=jt op:=by
 unfold CY at h
 cases hc:fM op vs with
 | none=>rw[hc]at h;cases h
 | some b=>
   rw[hc]at h
   simp only[Option.map_some,Option.some.injEq]at h
   subst h
   unfold jt
   split<;>simp[Pv]
theorem OM {f g:Str→Option Int}{es:List En}{e:En}(w:PlE e) (hs:SzOk g e) (h:chD f es e=[]):((gz g f e).length:Int)=eW g e:=by
 obtain⟨hz,hc⟩:=Ql h
 have hlen:=nW hz
 unfold gz
 split
 ·rename_i hcode
  have:=(hc hcode).2
  rw[← Et]at this
  cases hen:CY (bt e) (dx e.place (cS (aZ (bt e))) (aU e.place f e.x.2.args).1) with
  | none=>rw[hen]at this;cases this
  | some bs=>
    rw[Option.getD_some,PX hen]
    unfold eW bt
    rcases hcode with hk|hk
    ·rw[if_pos hk,if_pos hk]
    ·have hk1:¬ e.x.2.kind=1:=by omega
     have ho:=(w.wf.grow hk).1
     have hsz:∀ n,n<3→jt (lr n)=4∧jt (fD n)=2:=by decide
     simp only[if_neg hk1,if_pos hk]
     cases e.grown
     ·simp only[Bool.false_eq_true,if_false];rw[(hsz _ ho).2];rfl
     ·simp only[if_true];rw[(hsz _ ho).1];rfl
 ·rename_i hcode
  split
  ·rename_i hd
   have hfl:∀ (n:Nat) (vs:List Int),(vs.flatMap (beB n)).length=vs.length*n:=by
    intro n vs
    induction vs with
    | nil=>simp
    | cons a l ih=>rw[List.flatMap_cons,List.length_append,ih,L1,List.length_cons,Nat.add_mul];omega
   rw[hfl,hlen]
   unfold eW
   unfold cm at hcode
   unfold cC at hd
   rw[if_neg (by omega),if_neg (by omega),if_pos hd]
   push_cast;rfl
  ·rename_i hd
   unfold cm at hcode
   unfold cC at hd
   split
   ·rename_i h6
    unfold eW
    rw[if_neg (by omega),if_neg (by omega),if_neg (by omega),if_pos h6];simp
   ·rw[List.length_replicate]
    have:=(tW w.wf hs w.lo).1
    omega
def rJ (f:Str→Option Int) (es:List En):Int:=(es.map (eW f)).sum
theorem vI (f:Str→Option Int):∀ (es:List En) (st:List En×Int),st.2=rJ f st.1→(es.foldl (cW f) st).2=rJ f (es.foldl (cW f) st).1
 | [],_,h=>h
 | e::es,st,h=>by
   rw[List.foldl_cons]
   refine vI f es _ ?_
   simp only[cW,rJ,List.map_append,List.sum_append,List.map_cons,List.map_nil,List.sum_cons,List.sum_nil]at h ⊢
   omega
theorem Em (f:Str→Option Int):∀ (n:Nat) (es:List En),∃ es',dk f n es=bH f es'
 | 0,es=>⟨es,rfl⟩
 | n+1,es=>by
   unfold dk
   split
   ·exact Em f n _
   ·exact⟨es,rfl⟩
theorem N1 (f:Str→Option Int) (n:Nat) (es:List En):(dk f n es).2.2=rJ f (dk f n es).1:=by
 obtain⟨es',h⟩:=Em f n es
 rw[h]
 exact vI f es' ([],0) rfl
theorem N6 {f:Str→Option Int}{es:List En}(h:∀ e∈es,0≤eW f e) (q:Nat):rJ f (es.take q)≤rJ f es:=by
 have hpos:∀ l:List En,(∀ e∈l,0≤eW f e)→0≤rJ f l:=by
  intro l
  induction l with
  | nil=>intro _;simp[rJ]
  | cons a l ih=>
    intro hl
    have:=ih fun e he=>hl e (.tail _ he)
    have:=hl a (.head _)
    simp only[rJ,List.map_cons,List.sum_cons]at *;omega
 conv=>rhs;rw[← List.take_append_drop q es]
 have:=hpos (es.drop q) fun e he=>h e (List.mem_of_mem_drop he)
 simp only[rJ,List.map_append,List.sum_append]at *;omega
theorem Ho {f g:Str→Option Int}{es0:List En}:∀ (es:List En),(∀ e∈es,PlE e∧SzOk g e∧chD f es0 e=[])→((es.flatMap (gz g f)).length:Int)=rJ g es
 | [],_=>by simp[rJ]
 | e::es,h=>by
   have ih:=Ho es fun x hx=>h x (.tail _ hx)
   obtain⟨h1,h2,h3⟩:=h e (.head _)
   have:=OM h1 h2 h3
   simp only[List.flatMap_cons,List.length_append,rJ,List.map_cons,List.sum_cons]at *
   omega
variable {h0 h h':ab}{M:List Nat}{Q:QT}{K:AV→Prop}{KS:ab→Prop}
theorem Nc {frags:List Fg}{syms:List Sy}(h:ix frags syms=[]):(cG frags syms).2.2≤4096∧∀ e∈(cG frags syms).1,chD (cG frags syms).2.1 (cG frags syms).1 e=[]:=by
 unfold ix at h
 split at h
 ·rename_i h1;exact (h1 h).elim
 split at h
 ·rename_i h1;exact (h1 h).elim
 split at h
 ·rename_i h1;exact (h1 h).elim
 split at h
 ·cases h
 rename_i h4
 rw[List.flatMap_eq_nil_iff]at h
 exact⟨by omega,h⟩
theorem NU (frags:List Fg) (syms:List Sy) (hw:Few frags syms):(ix frags syms).length<2000000:=by
 have h1:=hw.bads
 have h2:=hw.ents
 have htw:∀ (es:List En) (st:TwS) (b:Nat),TwB st b→TwB (es.foldl twE st) (b+2*es.length):=by
  intro es
  induction es with
  | nil=>intro st b h;simpa using h
  | cons e es ih=>
    intro st b h
    rw[List.foldl_cons,List.length_cons]
    have hn:∀ (nm:List Str) (st:TwS) (b:Nat),TwB st b→TwB (nm.foldl (twN e) st) (b+nm.length):=by
     intro nm
     induction nm with
     | nil=>intro st b h;simpa using h
     | cons n nm ih2=>
       intro st b h
       rw[List.foldl_cons,List.length_cons]
       have:=ih2 _ _ (h.step e n)
       exact⟨by have:=this.1;omega,fun k=>by have:=this.2 k;omega⟩
    have hl:(lu e).length≤2:=by unfold lu;split<;>simp
    have h3:=hn (lu e) st b h
    have h4:=ih (twE st e) (b+2) ⟨by have:=h3.1;unfold twE;omega,fun k=>by have:=h3.2 k;unfold twE;omega⟩
    exact⟨by have:=h4.1;omega,fun k=>by have:=h4.2 k;omega⟩
 have h5:=htw (ck frags) (tw0 (gv syms)) 0 ⟨by simp[tw0],fun k=>by simp[tw0];cases gv syms k<;>simp⟩
 have h6:=p7 (LR (gv syms)) (ck frags)
 have h7:=p7 (Lv (cG frags syms).2.1 (cG frags syms).1) (cG frags syms).1
 have h8:(cG frags syms).1.length=(ck frags).length:=by
  unfold cG
  have:∀ (f:Str→Option Int) (n:Nat) (es:List En),(dk f n es).1.length=es.length:=by
   intro f n
   induction n with
   | zero=>intro es;exact iW f es
   | succ n ih=>
     intro es
     unfold dk
     split
     ·rw[ih,List.length_map,iW]
     ·exact iW f es
  exact this _ _ _
 unfold ix
 split
 ·omega
 split
 ·have:=h5.1;unfold qO;omega
 split
 ·omega
 split
 ·simp
 ·omega
theorem lH (hF:ct) (hI:gf) (hA:iG) (hL:dq) {frags:List Fg}{syms:List Sy}{fv sv:AV}(rf:Row frE 2 h fv frags) (rs:Row syE 2 h sv syms) (hw:Few frags syms)
  (kb:ix frags syms≠[]→∀ h',Fr [] h h'→Q (.tup [.full 0 [],.snap (ix frags syms).length ((ix frags syms).flatMap dE)]) h')
  (kg:ix frags syms=[]→∀ h',Fr [] h h'→Q (.tup [.snap (qL frags syms).length ((qL frags syms).flatMap bE),.full 0 []]) h'):C d4 [fv,sv] h Q:=by
 refine zo _ _ _ _ ?_
 unfold wo
 refine LG hF hI hA hL rf rs hw (fun hne i js l lv dv kn sz kvs EL ED R h1 s1=>?_) (fun hnil i js l lv dv jk kvk kvs EL ED R h1 hel hwl nds hfs ndk hfk s1=>?_)
 ·have si:=St.startr s1.src
  refine aq (an (aj si (.head _) rfl ?_))
  have rd:=s1.ad.rd s1.st
  refine mX rd ?_
  refine cO ?_
  have hlen:0<(ix frags syms).length:=List.length_pos_iff.2 hne
  refine ag (fun _=>?_) (fun h=>by simp at h;exact (hne h).elim)
  refine aq (an (aj si (.head _) rfl ?_))
  have:=NU frags syms hw
  refine wS (by omega) rd fun h2 f2=>?_
  exact kb hne h2 (s1.call f2).st.fr
 ·have si:=St.startr s1.src
  refine aq (an (aj si (.head _) rfl ?_))
  refine mX (s1.ad.rd s1.st) ?_
  refine cO ?_
  refine ag (fun h=>by simp at h) (fun _=>?_)
  refine aq (an (aj si (.head _) rfl ?_))
  clear si
  refine s1.row.len ?_
  obtain⟨hsz,hch⟩:=Nc hnil
  have hent:∀ e∈(cG frags syms).1,PlE e∧SzOk (gv syms) e∧chD (cG frags syms).2.1 (cG frags syms).1 e=[]:=by
   intro e he
   have he2:=he
   rw[← hel,List.mem_map]at he2
   obtain⟨x,hx,rfl⟩:=he2
   exact⟨(hwl x hx).1,(hwl x hx).2,hch _ he⟩
  have hsum:(cG frags syms).2.2=rJ (gv syms) (cG frags syms).1:=N1 _ _ _
  have hlong:∀ e∈(cG frags syms).1,0≤eW (gv syms) e:=fun e he=>(tW (hent e he).1.wf (hent e he).2.1 (hent e he).1.lo).1
  have hll:l.length=(ck frags).length:=by
   have h1:=congrArg List.length hel
   have h8:∀ (f:Str→Option Int) (n:Nat) (es:List En),(dk f n es).1.length=es.length:=by
    intro f n
    induction n with
    | zero=>intro es;exact iW f es
    | succ n ih=>
      intro es
      unfold dk
      split
      ·rw[ih,List.length_map,iW]
      ·exact iW f es
   rw[List.length_map]at h1
   rw[h1];exact h8 _ _ _
  have hents:=hw.ents
  have hpre:∀ q,(((l.take q).map (·.2)).flatMap (gz (gv syms) (cG frags syms).2.1)).length≤4096:=by
   intro q
   rw[List.map_take,hel]
   have h1:=Ho (f:=(cG frags syms).2.1) (g:=gv syms) (es0:=(cG frags syms).1) ((cG frags syms).1.take q) fun e he=>hent e (List.mem_of_mem_take he)
   have h2:=N6 hlong q
   omega
  refine aR (fun n vs h'=>∃ (q:Nat) (v:AV) (E:Own),vs=[v,I (q:Nat)]∧n+q=l.length∧AccE 1 v (((l.take q).map (·.2)).flatMap (gz (gv syms) (cG frags syms).2.1)).length ((((l.take q).map (·.2)).flatMap (gz (gv syms) (cG frags syms).2.1)).flatMap bE) E∧SS h [] h' i js l [] lv dv (.map jk) (cG frags syms).2.2 kvs EL ED (E++((jk,true,bu kvk)::R))) l.length ⟨0,.full 0 [],[],rfl,by omega,.none 1,s1⟩ ?_
  rintro n vs h2 ⟨q,v,E,rfl,hn,a,s2⟩
  unfold rp
  (repeat refine aP ?_)
  refine ag (fun hq=>?_) (fun hq=>?_)<;>simp only[za,zb,zc,zd,ze,zf,zg,zh,zi,u8i,zj,zk,zl]at hq
  ·have hq:q<l.length:=hq
   have hm:=List.getElem_mem hq
   refine s2.row.idx (fun _=>rfl) hq fun p t=>?_
   refine aE t ?_
   have hme:l[q].2∈(cG frags syms).1:=by rw[← hel];exact List.mem_map.2 ⟨_,hm,rfl⟩
   have hsucc:=sD (gz (gv syms) (cG frags syms).2.1) hq
   have hq1:=hpre (q+1)
   rw[hsucc,List.length_append]at hq1
   have hw0:=Ql (hent _ hme).2.2
   refine Pf hF hL (s2.ent _ hm) (hwl _ hm).1 s2.src ⟨kvk,s2.rget (List.mem_append_right _ (.head _)),ndk,hfk⟩ ⟨kvs,s2.syms,nds,hfs⟩ (hwl _ hm).2 (fun hc=>⟨hw0.1,by rw[Et];exact (hw0.2 hc).2⟩) fun u h3 f3 ru=>?_
   have s3:=s2.call f3
   refine a.app s3.backL (m:=(gz (gv syms) (cG frags syms).2.1 l[q].2).length) (xs:=(gz (gv syms) (cG frags syms).2.1 l[q].2).flatMap bE) ru (by
    have:∀ l:List Int,(l.flatMap bE).all AV.one=true:=fun l=>by
     induction l with
     | nil=>rfl
     | cons a l ih=>rw[List.flatMap_cons,List.all_append,ih];rfl
    exact this _) (by omega) fun v4 E4 h4 a4 s4=>?_
   refine aH (by omega) ?_
   refine⟨n-1,by omega,q+1,v4,E4,rfl,by omega,?_,SS.frontL s4 s3.unL⟩
   rw[hsucc,List.length_append,List.flatMap_append];exact a4
  ·have hq:q=l.length:=by omega
   subst hq
   have h1:=hpre l.length
   rw[List.take_length]at a h1
   refine ph (by omega) (a.rd s2.backL) fun h3 f3=>?_
   rw[hel]
   exact kg hnil h3 (s2.call f3).st.fr
end
end
section
section
variable [Tabs]
def Cn (frags:List Fg) (syms:List Sy):List Int:=((cG frags syms).1.filter fun e=>decide (e.x.2.kind=2)).map (eW (gv syms))
variable {h0 h h':ab}{M:List Nat}{Q:QT}{K:AV→Prop}{KS:ab→Prop}
theorem Dd (f:Str→Option Int):∀ (n:Nat) (es:List En),(dk f n es).1.length=es.length
 | 0,es=>iW f es
 | n+1,es=>by
   unfold dk
   split
   ·rw[Dd f n,List.length_map,iW]
   ·exact iW f es
theorem RQ (hF:ct) (hI:gf) (hA:iG) (hL:dq) {frags:List Fg}{syms:List Sy}{fv sv:AV}(rf:Row frE 2 h fv frags) (rs:Row syE 2 h sv syms) (hw:Few frags syms)
  (kb:ix frags syms≠[]→∀ h',Fr [] h h'→Q (.tup [.full 0 [],B false]) h')
  (kg:ix frags syms=[]→∀ h',Fr [] h h'→Q (.tup [.snap (Cn frags syms).length ((Cn frags syms).flatMap iE),B true]) h'):C qn [fv,sv] h Q:=by
 refine Gl _ _ _ _ ?_
 unfold DP
 refine LG hF hI hA hL rf rs hw (fun hne i js l lv dv kn sz kvs EL ED R h1 s1=>?_) (fun hnil i js l lv dv jk kvk kvs EL ED R h1 hel hwl nds hfs ndk hfk s1=>?_)
 ·have si:=St.startr s1.src
  refine aq (an (aj si (.head _) rfl ?_))
  have rd:=s1.ad.rd s1.st
  refine mX rd ?_
  refine cO ?_
  have hlen:0<(ix frags syms).length:=List.length_pos_iff.2 hne
  refine ag (fun _=>?_) (fun h=>by simp at h;exact (hne h).elim)
  exact kb hne h1 s1.st.fr
 ·have si:=St.startr s1.src
  refine aq (an (aj si (.head _) rfl ?_))
  refine mX (s1.ad.rd s1.st) ?_
  refine cO ?_
  refine ag (fun h=>by simp at h) (fun _=>?_)
  refine aq (an (aj si (.head _) rfl ?_))
  clear si
  refine s1.row.len ?_
  have hll:l.length=(ck frags).length:=by
   have h1:=congrArg List.length hel
   rw[List.length_map]at h1
   rw[h1];exact Dd _ _ _
  have hents:=hw.ents
  let gB:Nat×En→Bool:=fun x=>decide (x.2.x.2.kind=2)
  refine aR (fun n vs h'=>∃ (q:Nat) (v:AV) (E:Own),vs=[v,I (q:Nat)]∧n+q=l.length∧AccE 1 v (((l.take q).filter gB).map fun x=>eW (gv syms) x.2).length ((((l.take q).filter gB).map fun x=>eW (gv syms) x.2).flatMap iE) E∧SS h [] h' i js l [] lv dv (.map jk) (cG frags syms).2.2 kvs EL ED (E++((jk,true,bu kvk)::R))) l.length ⟨0,.full 0 [],[],rfl,by omega,.none 1,s1⟩ ?_
  rintro n vs h2 ⟨q,v,E,rfl,hn,a,s2⟩
  have hfl:(((l.take q).filter gB).map fun x=>eW (gv syms) x.2).length≤100000:=by
   have:=List.length_filter_le gB (l.take q)
   rw[List.length_take]at this
   rw[List.length_map];omega
  unfold we
  (repeat refine aP ?_)
  refine ag (fun hq=>?_) (fun hq=>?_)<;>simp only[za,zb,zc,zd,ze,zf,zg,zh,zi,u8i,zj,zk,zl]at hq
  ·have hq:q<l.length:=hq
   have hm:=List.getElem_mem hq
   have hno:gB l[q]=false→(l.take (q+1)).filter gB=(l.take q).filter gB:=fun hb=>by
    rw[List.take_succ_eq_append_getElem hq,List.filter_append];simp[hb]
   have hyes:gB l[q]=true→(l.take (q+1)).filter gB=(l.take q).filter gB++[l[q]]:=fun hb=>by
    rw[List.take_succ_eq_append_getElem hq,List.filter_append];simp[hb]
   refine s2.row.idx (fun _=>rfl) hq fun p t=>?_
   refine aE t ?_
   have sp:=St.startr (s2.ent _ hm)
   unfold enE at sp
   refine aq (an (an (aj sp (.head _) rfl (aB ?_))))
   have hlo:=(hwl _ hm).1.lo
   have hhi:=(hwl _ hm).1.hi
   refine ag (fun hb=>?_) (fun hb=>?_)<;>simp only[za,zb,zc,zd,ze,zf,zg,zh,zi,u8i,zj,zk,zl]at hb
   ·have hb:gB l[q]=true:=by show decide (l[q].2.x.2.kind=2)=true;simp;omega
    refine FT (s2.ent _ hm) (hwl _ hm).1.wf s2.src ⟨kvs,s2.syms,nds,hfs⟩ (hwl _ hm).2 ⟨hlo,hhi⟩ fun h3 f3=>?_
    have s3:=s2.call f3
    refine aG rfl rfl ?_
    refine a.app s3.backL (xs:=iE (eW (gv syms) l[q].2)) (m:=1) (Rd.full rfl) rfl (by omega) fun v3 E3 h8 a3 s8=>?_
    unfold mP qt
    refine aH (by omega) ?_
    refine⟨n-1,by omega,q+1,v3,E3,rfl,by omega,?_,SS.frontL s8 s3.unL⟩
    rw[hyes hb,List.map_append,List.flatMap_append,List.length_append];exact a3
   ·have hb:gB l[q]=false:=by show decide (l[q].2.x.2.kind=2)=false;simp;omega
    unfold mP qt
    refine aH (by omega) ?_
    refine⟨n-1,by omega,q+1,v,E,rfl,by omega,?_,s2⟩
    rw[hno hb];exact a
  ·have hq:q=l.length:=by omega
   subst hq
   rw[List.take_length]at a hfl
   have hg:(l.filter gB).map (fun x=>eW (gv syms) x.2)=Cn frags syms:=by
    unfold Cn
    rw[← hel,List.filter_map,List.map_map];rfl
   rw[hg]at a hfl
   refine ww (by omega) (a.rd s2.backL) fun h3 f3=>?_
   exact kg hnil h3 (s2.call f3).st.fr
end
end
section
abbrev Ux:Ej:=fun _ _ _ _ _=>none
section
theorem Lr [Tabs]:(kindsL.all fun p=>N3 Pg tb5 Ux 100 dX [T p.1] .leaf 0 fun r t _=>MY (.snap p.2.length (p.2.flatMap fun x=>[T x])) r t)=true:=by kernel_rfl
theorem NM [Tabs]:([8,15,19,24].all fun b:Nat=>N3 Pg tb5 Ux 100 pt [.lit (.float .f64 4607182418800017408),I (b:Nat)] .leaf 0 fun r t _=>MY (.lit (.float .f64 (FloatKind.f64.nearest (2^b:Nat)))) r t)=true:=by kernel_rfl
def digs:List UInt8:=[48,49,50,51,52,53,54,55,56,57]
def twoDigs:List Str:=(digs.map fun a=>[a])++digs.flatMap fun a=>digs.map fun b=>[a,b]
theorem Pc [Tabs]:(twoDigs.all fun s=>N3 Pg tb5 Ux 100 d7 [T s] .leaf 0 fun r t _=>MY (.tup [I (s.foldl (fun n c=>n*10+(c.toNat-48)) 0:Nat),.lit .nilIface]) r t)=true:=by kernel_rfl
theorem A5 {c:UInt8}(h:pf c=true):c∈digs:=by
 unfold pf dZ at h
 simp only[Bool.and_eq_true,decide_eq_true_eq]at h
 have:∀ n,48≤n→n≤57→UInt8.ofNat n∈digs:=by
  intro n h1 h2
  have:n=48∨n=49∨n=50∨n=51∨n=52∨n=53∨n=54∨n=55∨n=56∨n=57:=by omega
  rcases this with h|h|h|h|h|h|h|h|h|h<;>subst h<;>decide
 have h3:=this c.toNat h.1 h.2
 rwa [UInt8.ofNat_toNat]at h3
theorem S4 {s:Str}(h1:1≤s.length) (h2:s.length≤2) (h:s.all pf=true):s∈twoDigs:=by
 match s with
 | []=>simp at h1
 | [a]=>
   simp only[List.all_cons,List.all_nil,Bool.and_true]at h
   exact List.mem_append_left _ (List.mem_map.2 ⟨a,A5 h,rfl⟩)
 | [a,b]=>
   simp only[List.all_cons,List.all_nil,Bool.and_true,Bool.and_eq_true]at h
   exact List.mem_append_right _ (List.mem_flatMap.2 ⟨a,A5 h.1,List.mem_map.2 ⟨b,A5 h.2,rfl⟩⟩)
 | a::b::c::r=>simp at h2
variable [Tabs5]
theorem I9:ct:=fun p hp h Q q=>rX Tabs5.tb xM (d:=100) (.snap p.2.length (p.2.flatMap fun x=>[T x])) rfl (by
 have:∀ l:List Str,clL (l.flatMap fun x=>[T x])=true:=fun l=>by
  induction l with
  | nil=>rfl
  | cons a l ih=>show (cl (T a)&&clL (l.flatMap fun x=>[T x]))=true;rw[ih];rfl
 exact this _) (List.all_eq_true.1 Lr p hp) q
theorem MA:dq:=fun b hb h Q q=>rX Tabs5.tb xM (d:=100) (.lit (.float .f64 (FloatKind.f64.nearest (2^b:Nat)))) rfl rfl (List.all_eq_true.1 NM b hb) q
theorem PT:iG:=fun s h1 h2 h3 h Q q=>rX Tabs5.tb xM (d:=100) _ rfl rfl (List.all_eq_true.1 Pc s (S4 h1 h2 h3)) q
theorem LL:gf:=fun s sub h Q hs q=>by
 have hI:=Tn
 refine⟨hI.1,fun G w vs si r=>?_⟩
 obtain⟨x,y,hx,ha,hb⟩:=r.two
 simp only[Rep]at ha hb
 obtain⟨rfl,_⟩:=ha
 obtain⟨rfl,_⟩:=hb
 obtain⟨m,hm⟩:=Tabs5.m0 _ si.tab
 subst hx
 refine (hI.2 ⟨⟨s⟩⟩ ⟨⟨sub⟩⟩ m w hs (si.frz _ _ _ hm)).mono fun e w' ⟨he,hw⟩=>?_
 subst hw
 exact⟨I (Lib.index s sub),_,h,G,he,by simp[Rep,Value.oneCell'],q,si,Evo.refl _ _ _⟩
