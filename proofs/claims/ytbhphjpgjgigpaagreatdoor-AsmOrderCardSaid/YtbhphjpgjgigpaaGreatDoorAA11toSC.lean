import Derived.Test.YtbhphjpgjgigpaaGreatDoorAA5toAA10
import Derived.Test.YtbhphjpgjgigpaaGreatDoorSBtoAI2
set_option linter.all false
set_option autoImplicit true
set_option relaxedAutoImplicit true
set_option maxRecDepth 100000
namespace Go.Proofs.YtbhphjpgjgigpaaGreatDoor.AL
noncomputable section
section
section
variable [Tabs]
def ra (f:Str→Option Int) (e:En):Bool:=decide (e.x.2.kind=2)&&(!e.grown&&(decide ((br e.place f (bO e)).2=0)&&!(mu (ir 0) [(br e.place f (bO e)).1-e.place]).isSome))
end
def SF (e:En):En:=⟨e.frag,e.x,e.place,true⟩
def gX (x:Nat×En):Nat×En:=(x.1,SF x.2)
def grF (p:Nat×En→Bool):Nat→List (Nat×En)→List (Nat×En)
 | 0,l=>l
 | _+1,[]=>[]
 | t+1,x::l=>if p x=true then gX x::grF p t l else x::grF p (t+1) l
theorem VA (p:Nat×En→Bool) (l:List (Nat×En)):grF p 0 l=l:=by cases l<;>simp[grF]
theorem EX (p:Nat×En→Bool):∀ (l:List (Nat×En)) (t:Nat) (ht:t<(l.filter p).length),∃ q,∃ hq:q<(grF p t l).length,(grF p t l)[q]=(l.filter p)[t]∧grF p (t+1) l=(grF p t l).set q (gX (l.filter p)[t])
 | [],t,ht=>by simp at ht
 | x::l,t,ht=>by
   by_cases hp:p x=true
   ·cases t with
    | zero=>exact⟨0,by simp[grF],by simp[grF,hp],by simp[grF,hp]⟩
    | succ t=>
      have ht2:t<(l.filter p).length:=by simpa [List.filter_cons,hp] using ht
      obtain⟨q,hq,h1,h2⟩:=EX p l t ht2
      refine⟨q+1,by simp[grF,hp];exact hq,?_,?_⟩
      ·simp[grF,hp,List.filter_cons,h1]
      ·simp[grF,hp,List.filter_cons,h2]
   ·have hf:(x::l).filter p=l.filter p:=by simp[List.filter_cons,hp]
    have ht2:t<(l.filter p).length:=by rw[hf]at ht;exact ht
    obtain⟨q,hq,h1,h2⟩:=EX p l t ht2
    cases t with
    | zero=>
      refine⟨q+1,by simp[grF]at hq ⊢;exact hq,?_,?_⟩
      ·simp[grF,hf];simpa [grF] using h1
      ·simp[grF,hp,hf];simpa [grF] using h2
    | succ t=>
      refine⟨q+1,by simp[grF,hp];exact hq,?_,?_⟩
      ·simp[grF,hp,hf,h1]
      ·simp[grF,hp,hf];simpa [grF] using h2
theorem Ec (p:Nat×En→Bool):∀ l:List (Nat×En),grF p (l.filter p).length l=l.map fun x=>if p x=true then gX x else x
 | []=>by simp[grF]
 | x::l=>by
   by_cases hp:p x=true
   ·simp[List.filter_cons,hp,grF,Ec p l]
   ·have hf:(x::l).filter p=l.filter p:=by simp[List.filter_cons,hp]
    rw[hf,List.map_cons,if_neg hp]
    cases hn:(l.filter p).length with
    | zero=>
      have:=Ec p l
      rw[hn]at this
      simp only[grF]at this ⊢
      rw[← this]
    | succ n=>
      have:=Ec p l
      rw[hn]at this
      rw[grF,if_neg hp,this]
section
variable [Tabs]
def kZ (f:Str→Option Int) (e:En):En:=if ra f e=true then SF e else e
variable {h0 h h':ae}{M:List Nat}{Q:QT}{K:AV→Prop}
variable {i js:Nat}{l:List (Nat×En)}{ds:List Dg}{lv dv kn:AV}{sz:Int}{kvs:KV}{EL ED R:Own}
theorem SS.frontL {E:Own}(s':St h0 M h' (E++(ED++((i,true,ew lv js kn dv sz)::(js,true,bC kvs)::(EL++(cy l++R)))))) (s:SS h0 M h i js l ds lv dv kn sz kvs EL ED R):SS h0 M h' i js l ds lv dv kn sz kvs EL ED (E++R):=⟨s.al,s.ad,s'.perm (by
 have hx:∀ R:Own,(ED++((i,true,ew lv js kn dv sz)::(js,true,bC kvs)::(EL++(cy l++R))))=(ED++((i,true,ew lv js kn dv sz)::(js,true,bC kvs)::(EL++cy l)))++R:=fun R=>by simp
 rw[hx R,hx (E++R),← List.append_assoc,← List.append_assoc _ E]
 exact List.Perm.append_right _ List.perm_append_comm)⟩
theorem SS.backL {E:Own}(s:SS h0 M h i js l ds lv dv kn sz kvs EL ED (E++R)):St h0 M h (E++(ED++((i,true,ew lv js kn dv sz)::(js,true,bC kvs)::(EL++(cy l++R))))):=s.st.perm (by
 have hx:∀ R:Own,(ED++((i,true,ew lv js kn dv sz)::(js,true,bC kvs)::(EL++(cy l++R))))=(ED++((i,true,ew lv js kn dv sz)::(js,true,bC kvs)::(EL++cy l)))++R:=fun R=>by simp
 rw[hx R,hx (E++R)]
 exact List.perm_append_comm_assoc _ _ _)
theorem SS.unL {E:Own}(s:SS h0 M h i js l ds lv dv kn sz kvs EL ED (E++R)):SS h0 M h i js l ds lv dv kn sz kvs EL ED R:=s.unR (List.sublist_append_right _ _)
theorem XY:ir 0<tbl.length:=by decide
theorem YW (hF:cD) (hL:dL) (hl:l.length<10000000) {f:Str→Option Int}{jk:Nat}{kv:KV}(nd:(bN kv).Nodup) (hf:∀ k,bw k kv=f k) (w:∀ x∈l,PlE x.2)
  (s:SS h0 M h i js l ds lv dv (.map jk) sz kvs EL ED ((jk,true,bC kv)::R))
  (k:∀ h',SS h0 M h' i js (l.map fun x=>(x.1,kZ f x.2)) ds lv dv (.map jk) sz kvs EL ED ((jk,true,bC kv)::R)→Q (B ((l.map (·.2)).any (ra f))) h'):C kU [.ptr i 0] h Q:=by
 refine zM _ _ _ ?_
 unfold ve
 have si:=St.startr s.src
 (repeat (first|refine aw ?_|refine aj ?_|refine af ‹_› (.head _) rfl ?_))
 clear si
 refine s.row.len ?_
 let pB:Nat×En→Bool:=fun x=>ra f x.2
 refine aP (fun n vs h'=>∃ (q:Nat) (v:AV) (E:Own),vs=[v,I (q:Nat)]∧n+q=l.length∧AccE 1 v ((l.take q).filter pB).length (((l.take q).filter pB).flatMap pE) E∧SS h0 M h' i js l ds lv dv (.map jk) sz kvs EL ED (E++((jk,true,bC kv)::R))) l.length ⟨0,.full 0 [],[],rfl,by omega,.none 1,s⟩ ?_
 rintro n vs h1 ⟨q,v,E,rfl,hn,a,s1⟩
 unfold oL
 (repeat refine aJ ?_)
 refine ah (fun hq=>?_) (fun hq=>?_)<;>simp only[za,zb,zc,zd,ze,zf,zg,zh,zi,u8i,zj,zk,zl]at hq
 ·have hq:q<l.length:=hq
  have hm:=List.getElem_mem hq
  have hw:=w _ hm
  have hlo:=hw.lo
  have hhi:=hw.hi
  have hfl:((l.take q).filter pB).length≤q:=by
   have:=List.length_filter_le pB (l.take q)
   rw[List.length_take]at this;omega
  refine s1.row.idx (fun _=>rfl) hq fun p t=>?_
  refine aH t ?_
  have sp:=St.startr (s1.ent _ hm)
  have si:=St.startr s1.src
  unfold enE at sp
  have hno:pB l[q]=false→(l.take (q+1)).filter pB=(l.take q).filter pB:=fun hb=>by
   rw[List.take_succ_eq_append_getElem hq,List.filter_append];simp[hb]
  have hyes:pB l[q]=true→(l.take (q+1)).filter pB=(l.take q).filter pB++[l[q]]:=fun hb=>by
   rw[List.take_succ_eq_append_getElem hq,List.filter_append];simp[hb]
  have skip:pB l[q]=false→∀ h',SS h0 M h' i js l ds lv dv (.map jk) sz kvs EL ED (E++((jk,true,bC kv)::R))→cA v (I (q:Nat)) h' (fun vs' h'=>∃ m,m<n∧∃ (q:Nat) (v:AV) (E:Own),vs'=[v,I (q:Nat)]∧m+q=l.length∧AccE 1 v ((l.take q).filter pB).length (((l.take q).filter pB).flatMap pE) E∧SS h0 M h' i js l ds lv dv (.map jk) sz kvs EL ED (E++((jk,true,bC kv)::R))):=by
   intro hb h' s'
   unfold cA kQ
   refine aI (by omega) ?_
   exact⟨n-1,by omega,q+1,v,E,rfl,by omega,by rw[hno hb];exact a,s'⟩
  refine aw (aj (aj (af sp (.head _) rfl (cg ?_))))
  refine ah (fun h2=>?_) (fun h2=>?_)<;>simp only[za,zb,zc,zd,ze,zf,zg,zh,zi,u8i,zj,zk,zl]at h2
  ·exact skip (by show ra f l[q].2=false;unfold ra;rw[show decide (l[q].2.x.2.kind=2)=false by simp;omega];rfl) h1 s1
  ·have h2:l[q].2.x.2.kind=2:=by omega
   refine aw (aj (af sp (.head _) rfl ?_))
   have hgb:pB l[q]=(!l[q].2.grown&&(decide ((br l[q].2.place f (bO l[q].2)).2=0)&&!(mu (ir 0) [(br l[q].2.place f (bO l[q].2)).1-l[q].2.place]).isSome)):=by
    show ra f l[q].2=_
    unfold ra;rw[show decide (l[q].2.x.2.kind=2)=true by simpa using h2,Bool.true_and]
   cases hg:l[q].2.grown with
   | true=>exact ah (fun _=>skip (by rw[hgb,hg];rfl) h1 s1) (fun h=>by cases h)
   | false=>
     refine ah (fun h=>by cases h) (fun _=>?_)
     rw[hg,Bool.not_false,Bool.true_and]at hgb
     have hrd:0<l[q].2.x.2.args.length:=by
      have:=(hw.wf.grow h2).2.1
      have h3:∀ n,n<3→0<(cK (bj (ir n))).length:=by decide
      have:=h3 _ (hw.wf.grow h2).1
      omega
     have hne:l[q].2.x.2.args≠[]:=List.length_pos_iff.1 hrd
     have hlast:=xF hw.wf hne
     refine aw (aj (af sp (.head _) rfl (aw (aj (af si (.head _) rfl ?_)))))
     refine xI (s1.ent _ hm) hw.wf hne fun h3 f3=>?_
     refine⟨af (si.call f3) (.head _) rfl rfl,af (sp.call f3) (.head _) rfl rfl,?_⟩
     have mm:MapAt h1 jk f:=⟨kv,s1.rget (List.mem_append_right _ (.head _)),nd,hf⟩
     refine pT hlast.1 hlast.2 _ (mm.fr f3) fun h4 f4=>?_
     have s4:=(s1.call f3).call f4
     have hin:=FF l[q].2.place f (bO l[q].2)
     generalize br l[q].2.place f (bO l[q].2)=ev at hgb hin ⊢
     refine aE rfl (aE rfl (aA ?_))
     refine ah (fun he=>?_) (fun he=>?_)<;>simp only[za,zb,zc,zd,ze,zf,zg,zh,zi,u8i,zj,zk,zl]at he
     ·rw[show decide (ev.2=0)=true by simpa using he,Bool.true_and]at hgb
      have sp4:=St.startr (s4.ent _ hm)
      unfold enE at sp4
      refine aw (aj (af sp4 (.head _) rfl (cw (by omega) (aB rfl rfl ?_))))
      refine Mn (n:=0) (by decide) fun h5 f5=>?_
      refine⟨af (sp4.call f5) (.head _) rfl rfl,?_⟩
      refine aD rfl ?_
      have s5:=s4.call f5
      refine Mm hF hL XY [ev.1-l[q].2.place] (by intro x hx;simp at hx;subst hx;unfold dQ;omega) (Row.full (enc:=iE) (fun _=>rfl) [ev.1-l[q].2.place]) fun h6 f6=>?_
      have s6:=s5.call f6
      refine bQ ?_
      cases hc:(mu (ir 0) [ev.1-l[q].2.place]).isSome with
      | true=>exact ah (fun h=>by cases h) (fun _=>skip (by rw[hgb,hc];rfl) h6 s6)
      | false=>
        refine ah (fun _=>?_) (fun h=>by cases h)
        refine aB rfl rfl ?_
        have hb:pB l[q]=true:=by rw[hgb,hc];rfl
        refine a.app s6.backL (xs:=pE l[q]) (m:=1) (Rd.full rfl) rfl (by omega) fun v3 E3 h8 a3 s8=>?_
        unfold cA kQ
        refine aI (by omega) ?_
        refine⟨n-1,by omega,q+1,v3,E3,rfl,by omega,?_,SS.frontL s8 s6.unL⟩
        rw[hyes hb];simpa using a3
     ·exact skip (by rw[hgb,show decide (ev.2=0)=false by simpa using he];rfl) h4 s4
 ·have hq:q=l.length:=by omega
  subst hq
  rw[List.take_length]at a
  have hflen:(l.filter pB).length≤l.length:=List.length_filter_le _ _
  have rowF:∀ h l',SS h0 M h i js l' ds lv dv (.map jk) sz kvs EL ED (E++((jk,true,bC kv)::R))→Row pE 1 h v (l.filter pB):=fun h l' s=>a.rd s.backL
  refine (rowF _ _ s1).len ?_
  have hany:(l.map (·.2)).any (ra f)=decide (0<(l.filter pB).length):=by
   rw[List.any_map,Bool.eq_iff_iff,decide_eq_true_eq,List.any_eq_true]
   constructor
   ·rintro ⟨x,hx,hp⟩;exact List.length_pos_of_mem (List.mem_filter.2 ⟨hx,hp⟩)
   ·intro hp
    obtain⟨x,hx⟩:=List.exists_mem_of_length_pos hp
    rw[List.mem_filter]at hx
    exact⟨x,hx.1,hx.2⟩
  rw[hany]at k
  have hall:(l.map fun x=>(x.1,kZ f x.2))=grF pB (l.filter pB).length l:=by
   rw[Ec]
   apply List.map_congr_left
   intro x _
   unfold kZ
   show _=if ra f x.2=true then _ else _
   split<;>rfl
  rw[hall]at k
  refine aP (fun n vs h'=>∃ (t:Nat),vs=[I (t:Nat)]∧n+t=(l.filter pB).length∧SS h0 M h' i js (grF pB t l) ds lv dv (.map jk) sz kvs EL ED (E++((jk,true,bC kv)::R))) (l.filter pB).length ⟨0,rfl,by omega,by rw[VA];exact s1⟩ ?_
  rintro n2 vs h2 ⟨t,rfl,hn2,s2⟩
  unfold oN
  (repeat refine aJ ?_)
  refine ah (fun ht=>?_) (fun ht=>?_)<;>simp only[za,zb,zc,zd,ze,zf,zg,zh,zi,u8i,zj,zk,zl]at ht
  ·have ht:t<(l.filter pB).length:=ht
   refine (rowF _ _ s2).idx (fun _=>rfl) ht fun p2 t2=>?_
   refine aH t2 ?_
   obtain⟨q,hq,h1q,h2q⟩:=EX pB l t ht
   rw[← h1q]at h2q ⊢
   refine aw (aj ?_)
   refine ay (L':=ED++((i,true,ew lv js (.map jk) dv sz)::(js,true,bC kvs)::(EL++(cy ((grF pB t l).set q ((grF pB t l)[q].1,SF (grF pB t l)[q].2))++(E++((jk,true,bC kv)::R)))))) (cs:=enE (grF pB t l)[q].2) s2.st (SS.subE hq (SF (grF pB t l)[q].2)) rfl rfl rfl (nle rfl) fun h3 s3=>?_
   have s3:=s2.setE hq s3
   refine aI (by omega) ?_
   refine⟨n2-1,by omega,t+1,rfl,by omega,?_⟩
   rw[h2q];exact s3
  ·have ht:t=(l.filter pB).length:=by omega
   rw[ht]at s2
   refine (rowF _ _ s2).len ?_
   refine bx ?_
   rw[show decide ((0:Int)<((l.filter pB).length:Nat))=decide (0<(l.filter pB).length) by simp]
   exact k h2 s2.unL
end
end
section
section
variable [Tabs]
abbrev Pl:=List En×(Str→Option Int)×Int
def iP (f:Str→Option Int):Nat→List En→Pl
 | 0,es=>ij f es
 | n+1,es=>if (ij f es).1.any (ra (ij f es).2.1)=true then iP f n ((ij f es).1.map (kZ (ij f es).2.1)) else ij f es
def unG (e:En):Bool:=decide (e.x.2.kind=2)&&!e.grown
theorem Ei (f:Str→Option Int) (e:En):(kZ f e).x=e.x∧(kZ f e).frag=e.frag∧(kZ f e).place=e.place:=by unfold kZ;split<;>exact⟨rfl,rfl,rfl⟩
theorem Eu (syms:Str→Option Int):∀ (es:List En) (st:List En×Int),((es.foldl (kP syms) st).1).countP unG=st.1.countP unG+es.countP unG
 | [],st=>by simp
 | e::es,st=>by
   rw[List.foldl_cons,Eu syms es,List.countP_cons]
   simp only[kP,List.countP_append,List.countP_cons,List.countP_nil]
   have:unG (tw e st.2)=unG e:=rfl
   rw[this];omega
theorem H7 {f:Str→Option Int}{es:List En}(h:es.any (ra f)=true):(es.map (kZ f)).countP unG<es.countP unG:=by
 rw[List.countP_map]
 refine CM (fun e he hp=>?_) ?_
 ·simp only[Function.comp]at hp
  unfold kZ at hp
  split at hp
  ·simp[unG,SF]at hp
  ·exact hp
 ·rw[List.any_eq_true]at h
  obtain⟨e,he,hg⟩:=h
  refine⟨e,he,?_,?_⟩
  ·unfold ra at hg;unfold unG
   simp only[Bool.and_eq_true]at hg ⊢
   exact⟨hg.1,hg.2.1⟩
  ·simp only[Function.comp]
   unfold kZ;rw[if_pos hg];simp[unG,SF]
theorem Zb {f:Str→Option Int}{es:List En}(h:es.any (ra f)=true):0<es.countP unG:=by
 have:=H7 h;omega
variable {h0 h h':ae}{M:List Nat}{Q:QT}{K:AV→Prop}
variable {i js:Nat}{l:List (Nat×En)}{ds:List Dg}{lv dv kn:AV}{sz:Int}{kvs:KV}{EL ED R:Own}
theorem O5 {f:Str→Option Int}{es:List En}(hl:es.length<100000) (w:∀ e∈es,WfS e.x.2) (hs:∀ e∈es,SzOk f e):∀ e∈(ij f es).1,PlE e∧SzOk f e:=by
 intro e he
 have:=BV w hs es.length (Nat.le_refl _) e (by rw[List.take_length];exact he)
 obtain⟨⟨e0,h0,h1,h2,h3⟩,h4,h5⟩:=this
 refine⟨⟨by rw[h1];exact w _ h0,h4,by omega⟩,?_⟩
 have:=hs _ h0
 unfold SzOk bO GO at this ⊢
 rw[h1];exact this
theorem km (f:Str→Option Int) (es:List En):(ij f es).1.length=es.length:=by
 have:=zr f es ([],0)
 simpa [ij,cW] using this
theorem T4 (hF:cD) (hL:dL) (hl:l.length<100000) {f:Str→Option Int}(nds:(bN kvs).Nodup) (hfs:∀ k,bw k kvs=f k) (w:∀ x∈l,WfS x.2.x.2) (hs:∀ x∈l,SzOk f x.2) (hds:ds=[])
  (s:SS h0 M h i js l ds lv dv kn sz kvs EL ED R)
  (k:∀ l' jk kv' dv' ED' h',l'.map (·.1)=l.map (·.1)→l'.map (·.2)=(iP f l.length (l.map (·.2))).1→(∀ x∈l',PlE x.2∧SzOk f x.2)→(bN kv').Nodup→(∀ k,bw k kv'=(iP f l.length (l.map (·.2))).2.1 k)→
   SS h0 M h' i js l' (if 4096<(iP f l.length (l.map (·.2))).2.2 then [([],0,8)] else []) lv dv' (.map jk) (iP f l.length (l.map (·.2))).2.2 kvs EL ED' ((jk,true,bC kv')::R)→Q (.tup []) h'):C cc [.ptr i 0] h Q:=by
 subst hds
 generalize hP:iP f l.length (l.map (·.2))=P at k
 refine wB _ _ _ ?_
 unfold qT
 refine Xs hl nds hfs w hs s fun l1 jk1 kv1 h1 hm1 he1 nd1 hf1 s1=>?_
 have hw1:∀ e∈l.map (·.2),WfS e.x.2:=by
  intro e he;rw[List.mem_map]at he;obtain⟨x,hx,rfl⟩:=he;exact w x hx
 have hs1:∀ e∈l.map (·.2),SzOk f e:=by
  intro e he;rw[List.mem_map]at he;obtain⟨x,hx,rfl⟩:=he;exact hs x hx
 refine aP (fun n vs h'=>∃ (es:List En) (l1:List (Nat×En)) (jk:Nat) (kv:KV),vs=[]∧es.length<100000∧(∀ e∈es,WfS e.x.2)∧(∀ e∈es,SzOk f e)∧l1.map (·.1)=l.map (·.1)∧l1.map (·.2)=(ij f es).1∧(bN kv).Nodup∧(∀ k,bw k kv=(ij f es).2.1 k)∧
  es.countP unG≤n∧iP f n es=P∧SS h0 M h' i js l1 [] lv dv (.map jk) (ij f es).2.2 kvs EL ED ((jk,true,bC kv)::R)) l.length ⟨l.map (·.2),l1,jk1,kv1,rfl,by simpa using hl,hw1,hs1,hm1,he1,nd1,hf1,by have:=List.countP_le_length (p:=unG) (l:=l.map (·.2));simpa using this,hP,s1⟩ ?_
 rintro n vs h2 ⟨es,l2,jk,kv,rfl,hel,hwe,hse,hm2,he2,nd2,hf2,hcnt,hfix,s2⟩
 unfold nN
 have hl2:l2.length=l.length:=by simpa using congrArg List.length hm2
 have hwl:∀ x∈l2,PlE x.2∧SzOk f x.2:=fun x hx=>O5 hel hwe hse x.2 (by rw[← he2];exact List.mem_map.2 ⟨x,hx,rfl⟩)
 have hcl:(ij f es).1.countP unG=es.countP unG:=by
  have:=Eu f es ([],0)
  simpa [ij,cW] using this
 refine YW hF hL (by omega) nd2 hf2 (fun x hx=>(hwl x hx).1) s2 fun h3 s3=>?_
 rw[he2]
 cases hany:(ij f es).1.any (ra (ij f es).2.1) with
 | true=>
   refine ah (fun _=>?_) (fun h=>by cases h)
   have hpos:=Zb hany
   obtain⟨m,rfl⟩:∃ m,n=m+1:=⟨n-1,by omega⟩
   rw[iP,if_pos hany]at hfix
   have hmap2:(l2.map fun x=>(x.1,kZ (ij f es).2.1 x.2)).map (·.2)=(ij f es).1.map (kZ (ij f es).2.1):=by
    rw[List.map_map,← he2,List.map_map];rfl
   have hmap1:(l2.map fun x=>(x.1,kZ (ij f es).2.1 x.2)).map (·.1)=l.map (·.1):=by
    rw[List.map_map,← hm2];rfl
   refine Xs (by rw[List.length_map];omega) nds hfs (fun x hx=>?_) (fun x hx=>?_) s3 fun l4 jk4 kv4 h4 hm4 he4 nd4 hf4 s4=>?_
   ·rw[List.mem_map]at hx;obtain⟨y,hy,rfl⟩:=hx
    simp only[(Ei _ _).1];exact (hwl y hy).1.wf
   ·rw[List.mem_map]at hx;obtain⟨y,hy,rfl⟩:=hx
    have:=(hwl y hy).2
    unfold SzOk bO GO at this ⊢
    simp only[(Ei _ _).1];exact this
   rw[hmap2]at he4 hf4 s4
   refine⟨m,by omega,(ij f es).1.map (kZ (ij f es).2.1),l4,jk4,kv4,rfl,by rw[List.length_map,km];exact hel,fun e he=>?_,fun e he=>?_,by rw[hm4,hmap1],he4,nd4,hf4,?_,hfix,s4.unR ((List.sublist_cons_self _ _).cons₂ _)⟩
   ·rw[List.mem_map]at he;obtain⟨y,hy,rfl⟩:=he
    rw[(Ei _ _).1];exact (O5 hel hwe hse y hy).1.wf
   ·rw[List.mem_map]at he;obtain⟨y,hy,rfl⟩:=he
    have:=(O5 hel hwe hse y hy).2
    unfold SzOk bO GO at this ⊢
    rw[(Ei _ _).1];exact this
   ·have:=H7 hany;omega
 | false=>
   refine ah (fun h=>by cases h) (fun _=>?_)
   have hP2:ij f es=P:=by
    rw[← hfix]
    cases n with
    | zero=>rfl
    | succ n=>rw[iP,if_neg (by rw[hany];simp)]
   have hid:(l2.map fun x=>(x.1,kZ (ij f es).2.1 x.2))=l2:=by
    have:∀ x∈l2,(x.1,kZ (ij f es).2.1 x.2)=x:=by
     intro x hx
     have hx2:x.2∈(ij f es).1:=by rw[← he2];exact List.mem_map.2 ⟨x,hx,rfl⟩
     rw[List.any_eq_false]at hany
     have:=hany _ hx2
     unfold kZ;rw[if_neg this]
    conv=>rhs;rw[← List.map_id l2]
    exact List.map_congr_left this
   rw[hid]at s3
   rw[hP2]at he2 hf2 s3
   have si:=St.startr s3.src
   (repeat (first|refine aw ?_|refine aj ?_|refine bx ?_|refine af ‹_› (.head _) rfl ?_))
   clear si
   refine ah (fun hb=>?_) (fun hb=>?_)<;>simp only[za,zb,zc,zd,ze,zf,zg,zh,zi,u8i,zj,zk,zl]at hb
   ·rw[if_pos hb]at k
    refine AE (by simp) s3 fun dv' ED' h4 s4=>?_
    exact k l2 jk kv dv' ED' h4 hm2 he2 hwl nd2 hf2 s4
   ·rw[if_neg (by omega)]at k
    exact k l2 jk kv dv ED h3 hm2 he2 hwl nd2 hf2 s3
end
end
section
abbrev Fg:=Str×Str
def frE (x:Fg):List AV:=[T x.1,T x.2]
def aaV (f:Str→Option Int) (y:Sy):Str→Option Int:=upd f y.1 y.2
def gQ (syms:List Sy):Str→Option Int:=syms.foldl aaV fun _=>none
def mkE (n:Str) (x:Sm):En:=⟨n,x,0,false⟩
section
variable [Tabs]
def th (x:Fg):List En:=(og x.2).map (mkE x.1)
def tp (x:Fg):List Dg:=(sB x.2).map fun k=>(x.1,k,1)
def fh (l:List Fg):List En:=l.flatMap th
def tn (l:List Fg):List Dg:=l.flatMap tp
variable {h0 h h':ae}{M:List Nat}{Q:QT}{K:AV→Prop}{KS:ae→Prop}
variable {i js:Nat}{l:List (Nat×En)}{ds:List Dg}{lv dv kn:AV}{sz:Int}{kvs:KV}{EL ED R:Own}
theorem SS.subK {kvs':KV}:Sub (ED++((i,true,ew lv js kn dv sz)::(js,true,bC kvs)::(EL++(cy l++R)))) (js,true,bC kvs) (ED++((i,true,ew lv js kn dv sz)::(js,true,bC kvs')::(EL++(cy l++R)))) (js,true,bC kvs'):=Sub.pre (.tail .head) _
theorem X8 {e:En}{p:Nat}(hl:l.length<1000000000) (s:SS h0 M h i js l ds lv dv kn sz kvs EL ED ((p,true,.cells (enE e))::R))
  (k:∀ lv' EL' h',SS h0 M h' i js (l++[(p,e)]) ds lv' dv kn sz kvs EL' ED R→KS h'):bl 1 8 lv (.full 1 [.ptr p 0]) h fun t63 h14=>aF (.ptr i 0) fun t64=>ab 0 t64 fun t65=>an 1 t65 t63 h14 KS:=by
 have hz:cy l++((p,true,AObj.cells (enE e))::R)=cy (l++[(p,e)])++R:=by simp[cy]
 have hx:∀ (lv:AV) (EL:Own),(ED++((i,true,ew lv js kn dv sz)::(js,true,bC kvs)::(EL++(cy (l++[(p,e)])++R))))=(ED++[(i,true,ew lv js kn dv sz),(js,true,bC kvs)])++(EL++(cy (l++[(p,e)])++R)):=fun lv EL=>by simp
 have hy:∀ (lv:AV),(ED++((i,true,ew lv js kn dv sz)::(js,true,bC kvs)::(cy (l++[(p,e)])++R)))=(ED++[(i,true,ew lv js kn dv sz),(js,true,bC kvs)])++(cy (l++[(p,e)])++R):=fun lv=>by simp
 have hs:=s.st
 rw[hz,hx]at hs
 refine s.al.app (hs.perm (List.perm_append_comm_assoc _ _ _)) (xs:=pE (p,e)) (m:=1) (Rd.full rfl) rfl (by omega) fun lv' EL' h1 a1 s1=>?_
 rw[← hy]at s1
 refine aw (aj ?_)
 refine BS (L':=EL'++(ED++((i,true,ew lv' js kn dv sz)::(js,true,bC kvs)::(cy (l++[(p,e)])++R)))) a1.v1 s1 (Sub.pre (Sub.pre .head _) _) (nle rfl) fun h2 s2=>?_
 rw[hy]at s2
 refine k lv' EL' h2 ⟨by simpa using a1,s.ad,?_⟩
 rw[hx]
 exact s2.perm (List.perm_append_comm_assoc _ _ _)
theorem u9 {α β:Type}(g:α→List β) (l:List α) (q:Nat):((l.take q).flatMap g).length≤(l.flatMap g).length:=by
 conv=>rhs;rw[← List.take_append_drop q l]
 rw[List.flatMap_append,List.length_append];omega
theorem iB {α β:Type}(g:α→List β) {l:List α}{q:Nat}(hq:q<l.length):(l.take (q+1)).flatMap g=(l.take q).flatMap g++g l[q]:=by
 rw[List.take_succ_eq_append_getElem hq,List.flatMap_append,List.flatMap_cons,List.flatMap_nil,List.append_nil]
theorem Yu (hF:cD) (hI:g6) (hA:jT) {frags:List Fg}{syms:List Sy}{fv sv:AV}(rf:Row frE 2 h fv frags) (rs:Row syE 2 h sv syms) (hfl:frags.length<1000000) (hsl:syms.length<1000000) (he:(fh frags).length<100000) (hd:(tn frags).length<1000000) (ht:∀ x∈frags,x.2.length<1000000000)
  (k:∀ i js l lv dv kvs EL ED h',l.map (·.2)=fh frags→(bN kvs).Nodup→(∀ k,bw k kvs=gQ syms k)→SS h [] h' i js l (tn frags) lv dv (.lit (.map none)) 0 kvs EL ED []→Q (.ptr i 0) h'):C wh [fv,sv] h Q:=by
 refine MU _ _ _ _ ?_
 unfold Ms
 refine zy (St.start h) fun js h1 s1=>?_
 refine aD rfl ?_
 refine bW s1 rfl fun i h2 s2=>?_
 have s2:SS h [] h2 i js [] [] (.full 0 []) (.full 0 []) (.lit (.map none)) 0 [] [] [] []:=⟨.none 1,.none 3,s2⟩
 refine rs.len ?_
 refine aP (fun n vs h'=>∃ (q:Nat) (kvs:KV),vs=[I (q:Nat)]∧n+q=syms.length∧(bN kvs).Nodup∧(∀ k,bw k kvs=((syms.take q).foldl aaV fun _=>none) k)∧SS h [] h' i js [] [] (.full 0 []) (.full 0 []) (.lit (.map none)) 0 kvs [] [] []) syms.length ⟨0,[],rfl,by omega,by simp[bN],fun k=>rfl,s2⟩ ?_
 rintro n vs h3 ⟨q,kvs,rfl,hn,nd,hf,s3⟩
 unfold Bw
 (repeat refine aJ ?_)
 refine ah (fun hq=>?_) (fun hq=>?_)<;>simp only[za,zb,zc,zd,ze,zf,zg,zh,zi,u8i,zj,zk,zl]at hq
 ·have hq:q<syms.length:=hq
  refine (rs.fr s3.st.fr).idx (fun _=>rfl) hq fun p t=>?_
  refine aR t rfl ?_
  refine aQ s3.st fun t7 h4 s4=>?_
  have s4:=s3.front s4
  refine ay (L':=[]++((i,true,ew (.full 0 []) js (.lit (.map none)) (.full 0 []) 0)::(js,true,bC kvs)::([]++(cy []++((t7,true,.cells (syE syms[q]))::[]))))) (cs:=[T [],I 0]) s4.st (SS.subR .head) rfl rfl rfl (nle rfl) fun h5 s5=>?_
  have s5:SS h [] h5 i js [] [] (.full 0 []) (.full 0 []) (.lit (.map none)) 0 kvs [] [] [(t7,true,.cells (syE syms[q]))]:=⟨.none 1,.none 3,s5⟩
  have si:=St.startr s5.src
  refine aw (aj (af si (.head _) rfl (aj (af s5.st (SS.memR (.head _)) rfl (aj (af s5.st (SS.memR (.head _)) rfl ?_))))))
  refine tq s5.st SS.subK fun h6 s6=>?_
  refine aI (by omega) ?_
  have s6:SS h [] h6 i js [] [] (.full 0 []) (.full 0 []) (.lit (.map none)) 0 (putA syms[q].1 syms[q].2 kvs) [] [] [(t7,true,.cells (syE syms[q]))]:=⟨.none 1,.none 3,s6⟩
  refine⟨n-1,by omega,q+1,_,rfl,by omega,qm nd,fun k=>?_,s6.unR (List.nil_sublist _)⟩
  rw[List.take_succ_eq_append_getElem hq,List.foldl_append,nc,hf];rfl
 ·have hq:q=syms.length:=by omega
  subst hq
  rw[List.take_length]at hf
  refine (rf.fr s3.st.fr).len ?_
  refine aP (fun n vs h'=>∃ (q:Nat) (l:List (Nat×En)) (lv dv:AV) (EL ED:Own),vs=[I (q:Nat)]∧n+q=frags.length∧l.map (·.2)=(frags.take q).flatMap th∧SS h [] h' i js l ((frags.take q).flatMap tp) lv dv (.lit (.map none)) 0 kvs EL ED []) frags.length ⟨0,[],.full 0 [],.full 0 [],[],[],rfl,by omega,rfl,s3⟩ ?_
  rintro n vs h4 ⟨q,l,lv,dv,EL,ED,rfl,hn,hel,s4⟩
  unfold Bs
  (repeat refine aJ ?_)
  refine ah (fun hq=>?_) (fun hq=>?_)<;>simp only[za,zb,zc,zd,ze,zf,zg,zh,zi,u8i,zj,zk,zl]at hq
  ·have hq:q<frags.length:=hq
   refine (rf.fr s4.st.fr).idx (fun _=>rfl) hq fun p t=>?_
   refine aR t rfl ?_
   have htl:=ht _ (List.getElem_mem hq)
   have hle:=u9 th frags (q+1)
   have hld:=u9 tp frags (q+1)
   rw[iB th hq,List.length_append]at hle
   rw[iB tp hq,List.length_append]at hld
   have hll:l.length=((frags.take q).flatMap th).length:=by rw[← hel];simp
   have he':(frags.flatMap th).length<100000:=he
   have hd':(frags.flatMap tp).length<1000000:=hd
   have hle:=Nat.lt_of_le_of_lt hle he'
   have hld:=Nat.lt_of_le_of_lt hld hd'
   have hsE:=iB th hq
   have hsD:=iB tp hq
   have hfrE:th frags[q]=(og frags[q].2).map (mkE frags[q].1):=rfl
   have hfrD:tp frags[q]=(sB frags[q].2).map fun k=>(frags[q].1,k,1):=rfl
   rw[hfrE]at hle hsE
   rw[hfrD]at hld hsD
   generalize hfr:frags[q]=fr at htl hle hld hsE hsD ⊢
   generalize hpe:(frags.take q).flatMap th=pe at hel hle hll hsE
   generalize hpd:(frags.take q).flatMap tp=pd at s4 hld hsD
   refine aQ s4.st fun t9 h5 s5=>?_
   have s5:=s4.front s5
   refine ay (L':=ED++((i,true,ew lv js (.lit (.map none)) dv 0)::(js,true,bC kvs)::(EL++(cy l++((t9,true,.cells (frE fr))::[]))))) (cs:=[T [],T []]) s5.st (SS.subR .head) rfl rfl rfl (nle rfl) fun h6 s6=>?_
   have s6:SS h [] h6 i js l pd lv dv (.lit (.map none)) 0 kvs EL ED [(t9,true,.cells (frE fr))]:=⟨s4.al,s4.ad,s6⟩
   refine aj (af s6.st (SS.memR (.head _)) rfl ?_)
   refine KY hF hI hA fr.2 htl fun h7 f7=>?_
   have s7:=s6.call f7
   refine aE rfl (aE rfl ?_)
   have RS:∀ h,Row smF 6 h (.snap (og fr.2).length ((og fr.2).flatMap smF)) (og fr.2):=fun h=>Row.snap (enc:=smF) (fun _=>rfl) _
   have RB:∀ h,Row nE 1 h (.snap (sB fr.2).length ((sB fr.2).flatMap nE)) (sB fr.2):=fun h=>Row.snap (enc:=nE) (fun _=>rfl) _
   rw[List.length_map]at hle hld
   generalize og fr.2=ps at RS hle hsE ⊢
   generalize sB fr.2=pb at RB hld hsD ⊢
   refine (RS h7).len ?_
   refine aP (fun n2 vs h'=>∃ (j:Nat) (l:List (Nat×En)) (lv:AV) (EL:Own),vs=[I (j:Nat)]∧n2+j=ps.length∧l.map (·.2)=pe++(ps.take j).map (mkE fr.1)∧SS h [] h' i js l pd lv dv (.lit (.map none)) 0 kvs EL ED [(t9,true,.cells (frE fr))]) ps.length ⟨0,l,lv,EL,rfl,by omega,by simpa using hel,s7⟩ ?_
   rintro n2 vs h8 ⟨j,l8,lv8,EL8,rfl,hn2,hel8,s8⟩
   unfold Bm
   have hl8:l8.length≤100000:=by
    have:=congrArg List.length hel8
    simp only[List.length_map,List.length_append,List.length_take]at this
    omega
   (repeat refine aJ ?_)
   refine ah (fun hj=>?_) (fun hj=>?_)<;>simp only[za,zb,zc,zd,ze,zf,zg,zh,zi,u8i,zj,zk,zl]at hj
   ·have hj:j<ps.length:=hj
    refine (RS h8).idx (fun _=>rfl) hj fun p t=>?_
    refine aR t rfl ?_
    refine aQ s8.st fun t13 h9 s9=>?_
    have s9:=s8.front s9
    refine ay (L':=ED++((i,true,ew lv8 js (.lit (.map none)) dv 0)::(js,true,bC kvs)::(EL8++(cy l8++((t13,true,.cells (smF ps[j]))::(t9,true,.cells (frE fr))::[]))))) (cs:=[I 0,T [],I 0,I 0,T [],.full 0 []]) s9.st (SS.subR .head) rfl rfl rfl (nle rfl) fun h10 s10=>?_
    have s10:SS h [] h10 i js l8 pd lv8 dv (.lit (.map none)) 0 kvs EL8 ED [(t13,true,.cells (smF ps[j])),(t9,true,.cells (frE fr))]:=⟨s8.al,s8.ad,s10⟩
    have si:=St.startr s10.src
    refine aw (aj (af si (.head _) rfl (aj (af s10.st (SS.memR (.tail _ (.head _))) rfl ?_))))
    refine aL s10.st (SS.memR (.head _)) (nle rfl) ?_
    refine aD rfl ?_
    refine bW s10.st rfl fun p11 h11 s11=>?_
    have s11:SS h [] h11 i js l8 pd lv8 dv (.lit (.map none)) 0 kvs EL8 ED ((p11,true,.cells (enE (mkE fr.1 ps[j])))::[(t13,true,.cells (smF ps[j])),(t9,true,.cells (frE fr))]):=s10.front s11
    have si11:=St.startr s11.src
    refine⟨af si11 (.head _) rfl rfl,aB rfl rfl ?_⟩
    refine X8 (e:=mkE fr.1 ps[j]) (p:=p11) (by omega) s11 fun lv' EL' h12 s12=>?_
    refine aI (by omega) ?_
    refine⟨n2-1,by omega,j+1,l8++[(p11,mkE fr.1 ps[j])],lv',EL',rfl,by omega,?_,s12.unR (List.sublist_cons_self _ _)⟩
    rw[List.map_append,hel8,List.take_succ_eq_append_getElem hj,List.map_append,List.append_assoc];rfl
   ·have hj:j=ps.length:=by omega
    subst hj
    rw[List.take_length]at hel8
    refine (RB h8).len ?_
    refine aP (fun n3 vs h'=>∃ (b:Nat) (dv:AV) (ED:Own),vs=[I (b:Nat)]∧n3+b=pb.length∧SS h [] h' i js l8 (pd++(pb.take b).map fun k=>(fr.1,k,1)) lv8 dv (.lit (.map none)) 0 kvs EL8 ED [(t9,true,.cells (frE fr))]) pb.length ⟨0,dv,ED,rfl,by omega,by simpa using s8⟩ ?_
    rintro n3 vs h9 ⟨b,dv9,ED9,rfl,hn3,s9⟩
    unfold BC
    (repeat refine aJ ?_)
    refine ah (fun hb=>?_) (fun hb=>?_)<;>simp only[za,zb,zc,zd,ze,zf,zg,zh,zi,u8i,zj,zk,zl]at hb
    ·have hb:b<pb.length:=hb
     refine (RB h9).idx (fun _=>rfl) hb fun p t=>?_
     refine aH t ?_
     refine aj (af s9.st (SS.memR (.head _)) rfl ?_)
     refine AE (by simp;omega) s9 fun dv' ED' h10 s10=>?_
     refine aI (by omega) ?_
     refine⟨n3-1,by omega,b+1,dv',ED',rfl,by omega,?_⟩
     rw[List.take_succ_eq_append_getElem hb,List.map_append,← List.append_assoc];exact s10
    ·have hb:b=pb.length:=by omega
     subst hb
     rw[List.take_length]at s9
     refine aI (by omega) ?_
     refine⟨n-1,by omega,q+1,l8,lv8,dv9,EL8,ED9,rfl,by omega,?_,?_⟩
     ·rw[hsE];exact hel8
     ·rw[hsD];exact s9.unR (List.nil_sublist _)
  ·have hq:q=frags.length:=by omega
   subst hq
   rw[List.take_length]at hel s4
   exact k i js l lv dv kvs EL ED h4 hel nd hf s4
end
end
section
section
variable [Tabs]
def cJ (frags:List Fg) (syms:List Sy):Pl:=iP (gQ syms) (fh frags).length (fh frags)
def iT (frags:List Fg) (syms:List Sy):List Dg:=
 if tn frags≠[] then tn frags
 else if tM (gQ syms) (fh frags)≠[] then tM (gQ syms) (fh frags)
 else if (fh frags).flatMap (szD (gQ syms))≠[] then (fh frags).flatMap (szD (gQ syms))
 else if 4096<(cJ frags syms).2.2 then [([],0,8)]
 else (cJ frags syms).1.flatMap (chD (cJ frags syms).2.1 (cJ frags syms).1)
def Kf (frags:List Fg) (syms:List Sy):List Int:=(cJ frags syms).1.flatMap (oe (gQ syms) (cJ frags syms).2.1)
structure Few (frags:List Fg) (syms:List Sy):Prop where
 nf:frags.length<1000000
 ns:syms.length<1000000
 ents:(fh frags).length<100000
 bads:(tn frags).length<1000000
 texts:∀ x∈frags,x.2.length<1000000000
 wf:∀ e∈fh frags,WfS e.x.2
variable {h0 h h':ae}{M:List Nat}{Q:QT}{K:AV→Prop}{KS:ae→Prop}
theorem Ry (hF:cD) (hI:g6) (hA:jT) (hL:dL) {frags:List Fg}{syms:List Sy}{fv sv:AV}(rf:Row frE 2 h fv frags) (rs:Row syE 2 h sv syms) (hw:Few frags syms)
  (kb:iT frags syms≠[]→∀ i js l lv dv kn sz kvs EL ED R h',SS h [] h' i js l (iT frags syms) lv dv kn sz kvs EL ED R→Q (.ptr i 0) h')
  (kg:iT frags syms=[]→∀ i js l lv dv jk kvk kvs EL ED R h',l.map (·.2)=(cJ frags syms).1→(∀ x∈l,PlE x.2∧SzOk (gQ syms) x.2)→(bN kvs).Nodup→(∀ k,bw k kvs=gQ syms k)→(bN kvk).Nodup→(∀ k,bw k kvk=(cJ frags syms).2.1 k)→
   SS h [] h' i js l [] lv dv (.map jk) (cJ frags syms).2.2 kvs EL ED ((jk,true,bC kvk)::R)→Q (.ptr i 0) h'):C qt [fv,sv] h Q:=by
 refine NR _ _ _ _ ?_
 unfold NK
 refine Yu hF hI hA rf rs hw.nf hw.ns hw.ents hw.bads hw.texts fun i js l lv dv kvs EL ED h1 hel nd hf s1=>?_
 have hlen:l.length=(fh frags).length:=by rw[← hel];simp
 have hents:=hw.ents
 have hwl:∀ x∈l,WfS x.2.x.2:=fun x hx=>hw.wf _ (by rw[← hel];exact List.mem_map.2 ⟨x,hx,rfl⟩)
 refine aB rfl rfl ?_
 refine d6 ?_
 refine Af 10 ?_
 unfold iT at kb kg
 refine qJ ?_
 unfold Ds
 refine aJ (ah (fun _=>?_) (fun h=>by cases h))
 refine AX (h:=h1) (sz:=1) (n:=4) (cs:=[(.fn (.func co) [.ptr i 0] []),(.fn (.func cm) [.ptr i 0] []),(.fn (.func cc) [.ptr i 0] []),(.fn (.func ck) [.ptr i 0] [])]) (Rd.full rfl) (j:=0) (by decide) fun p t=>?_
 refine aH t ?_
 clear t
 have si:=St.startr s1.src
 refine aw (aj (af si (.head _) rfl ?_))
 refine oX (s1.ad.rd s1.st) ?_
 clear si
 refine bx ?_
 refine ah (fun h0=>?_) (fun h0=>?_)<;>simp only[za,zb,zc,zd,ze,zf,zg,zh,zi,u8i,zj,zk,zl]at h0
 ·have hne:tn frags≠[]:=by intro h;rw[h]at h0;simp at h0
  unfold iQ k7
  rw[if_pos hne]at kb
  exact kb hne _ _ _ _ _ _ _ _ _ _ _ _ s1
 have hn0:tn frags=[]:=by
  cases hd:tn frags with
  | nil=>rfl
  | cons a b=>rw[hd]at h0;simp at h0
 rw[hn0]at s1 kb kg
 rw[if_neg (by simp)]at kb kg
 show C co [.ptr i 0] h1 _
 refine XN (by omega) rfl s1 nd hf fun dv2 ED2 h2 s2=>?_
 rw[hel]at s2
 refine aI (by decide) (qQ (qJ ?_))
 refine aJ (ah (fun _=>?_) (fun h=>by cases h))
 refine AX (h:=h2) (sz:=1) (n:=4) (cs:=[(.fn (.func co) [.ptr i 0] []),(.fn (.func cm) [.ptr i 0] []),(.fn (.func cc) [.ptr i 0] []),(.fn (.func ck) [.ptr i 0] [])]) (Rd.full rfl) (j:=1) (by decide) fun p t=>?_
 refine aH t ?_
 clear t
 have si:=St.startr s2.src
 refine aw (aj (af si (.head _) rfl ?_))
 refine oX (s2.ad.rd s2.st) ?_
 clear si
 refine bx ?_
 refine ah (fun h0=>?_) (fun h0=>?_)<;>simp only[za,zb,zc,zd,ze,zf,zg,zh,zi,u8i,zj,zk,zl]at h0
 ·have hne:tM (gQ syms) (fh frags)≠[]:=by intro h;rw[h]at h0;simp at h0
  unfold iQ k7
  rw[if_pos hne]at kb
  exact kb hne _ _ _ _ _ _ _ _ _ _ _ _ s2
 have hn1:tM (gQ syms) (fh frags)=[]:=by
  cases hd:tM (gQ syms) (fh frags) with
  | nil=>rfl
  | cons a b=>rw[hd]at h0;simp at h0
 rw[hn1]at s2 kb kg
 rw[if_neg (by simp)]at kb kg
 show C cm [.ptr i 0] h2 _
 refine Xy (f:=gQ syms) (by omega) rfl s2 nd hf hwl fun dv3 ED3 h3 s3=>?_
 rw[hel]at s3
 refine aI (by decide) (qQ (qJ ?_))
 refine aJ (ah (fun _=>?_) (fun h=>by cases h))
 refine AX (h:=h3) (sz:=1) (n:=4) (cs:=[(.fn (.func co) [.ptr i 0] []),(.fn (.func cm) [.ptr i 0] []),(.fn (.func cc) [.ptr i 0] []),(.fn (.func ck) [.ptr i 0] [])]) (Rd.full rfl) (j:=2) (by decide) fun p t=>?_
 refine aH t ?_
 clear t
 have si:=St.startr s3.src
 refine aw (aj (af si (.head _) rfl ?_))
 refine oX (s3.ad.rd s3.st) ?_
 clear si
 refine bx ?_
 refine ah (fun h0=>?_) (fun h0=>?_)<;>simp only[za,zb,zc,zd,ze,zf,zg,zh,zi,u8i,zj,zk,zl]at h0
 ·have hne:(fh frags).flatMap (szD (gQ syms))≠[]:=by intro h;rw[h]at h0;simp at h0
  unfold iQ k7
  rw[if_pos hne]at kb
  exact kb hne _ _ _ _ _ _ _ _ _ _ _ _ s3
 have hn2:(fh frags).flatMap (szD (gQ syms))=[]:=by
  cases hd:(fh frags).flatMap (szD (gQ syms)) with
  | nil=>rfl
  | cons a b=>rw[hd]at h0;simp at h0
 rw[hn2]at s3 kb kg
 rw[if_neg (by simp)]at kb kg
 have hsz:∀ x∈l,SzOk (gQ syms) x.2:=fun x hx=>ZT (by
  rw[List.flatMap_eq_nil_iff]at hn2
  exact hn2 _ (by rw[← hel];exact List.mem_map.2 ⟨x,hx,rfl⟩))
 show C cc [.ptr i 0] h3 _
 refine T4 hF hL (by omega) nd hf hwl hsz rfl s3 fun l4 jk kv4 dv4 ED4 h4 hm4 he4 hw4 nd4 hf4 s4=>?_
 have hP:iP (gQ syms) l.length (l.map (·.2))=cJ frags syms:=by rw[hel,hlen];rfl
 rw[hP]at he4 hf4 s4
 have hlen4:l4.length=l.length:=by simpa using congrArg List.length hm4
 refine aI (by decide) (qQ (qJ ?_))
 refine aJ (ah (fun _=>?_) (fun h=>by cases h))
 refine AX (h:=h4) (sz:=1) (n:=4) (cs:=[(.fn (.func co) [.ptr i 0] []),(.fn (.func cm) [.ptr i 0] []),(.fn (.func cc) [.ptr i 0] []),(.fn (.func ck) [.ptr i 0] [])]) (Rd.full rfl) (j:=3) (by decide) fun p t=>?_
 refine aH t ?_
 clear t
 have si:=St.startr s4.src
 refine aw (aj (af si (.head _) rfl ?_))
 refine oX (s4.ad.rd s4.st) ?_
 clear si
 by_cases hbig:4096<(cJ frags syms).2.2
 ·rw[if_pos hbig]at s4 kb ⊢
  refine bx (ah (fun _=>?_) (fun h=>by cases h))
  unfold iQ k7
  exact kb (by simp) _ _ _ _ _ _ _ _ _ _ _ _ s4
 rw[if_neg hbig]at s4 kb kg ⊢
 refine bx (ah (fun h=>by cases h) (fun _=>?_))
 show C ck [.ptr i 0] h4 _
 refine UV hF hL (by omega) s4 rfl (.head _) nd4 hf4 (fun x hx=>(hw4 x hx).1) fun dv5 ED5 h5 s5=>?_
 rw[he4]at s5
 refine aI (by decide) (qQ (qJ ?_))
 refine aJ (ah (fun h=>by cases h) (fun _=>?_))
 unfold iQ k7
 by_cases hch:(cJ frags syms).1.flatMap (chD (cJ frags syms).2.1 (cJ frags syms).1)=[]
 ·rw[hch]at s5
  exact kg hch _ _ _ _ _ _ _ _ _ _ _ _ he4 hw4 nd hf nd4 hf4 s5
 ·exact kb hch _ _ _ _ _ _ _ _ _ _ _ _ s5
end
end
section
section
variable [Tabs]
theorem XC {f:Str→Option Int}{es:List En}{e:En}(h:chD f es e=[]):(bc e.place f e.x.2.args).2=0∧(dI e→e.place.tmod 2=0∧(mu (cr e) (gJ e.place (cK (bj (cr e))) (bc e.place f e.x.2.args).1)).isSome=true):=by
 unfold chD at h
 split at h
 ·cases h
 rename_i hw
 simp only[ne_eq,Classical.not_not]at hw
 unfold qk at hw
 split at hw
 ·cases hw
 rename_i h1
 split at hw
 ·cases hw
 split at hw
 ·rename_i h3;exact (h3 hw).elim
 rename_i h3
 simp only[ne_eq,Classical.not_not]at h3
 refine⟨h3,fun hc=>?_⟩
 split at hw
 ·cases hw
 rename_i h4
 refine⟨?_,?_⟩
 ·by_cases h:e.place.tmod 2=0
  ·exact h
  ·exact (h1 ⟨hc,h⟩).elim
 ·cases hcc:(mu (cr e) (gJ e.place (cK (bj (cr e))) (bc e.place f e.x.2.args).1)).isSome with
  | true=>rfl
  | false=>exact (h4 ⟨hc,hcc⟩).elim
theorem Jk {op:Nat}{vs:List Int}:(HI op vs).isSome=(mu op vs).isSome:=by unfold HI;cases mu op vs<;>rfl
theorem Xo {op:Nat}{vs bs:List Int}(h:HI op vs=some bs):bs.length=l7 op:=by
 unfold HI at h
 cases hc:mu op vs with
 | none=>rw[hc]at h;cases h
 | some b=>
   rw[hc]at h
   simp only[Option.map_some,Option.some.injEq]at h
   subst h
   unfold l7
   split<;>simp[Xw]
theorem T3 {f g:Str→Option Int}{es:List En}{e:En}(w:PlE e) (hs:SzOk g e) (h:chD f es e=[]):((oe g f e).length:Int)=jI g e:=by
 obtain⟨hz,hc⟩:=XC h
 have hlen:=qX hz
 unfold oe
 split
 ·rename_i hcode
  have:=(hc hcode).2
  rw[← Jk]at this
  cases hen:HI (cr e) (gJ e.place (cK (bj (cr e))) (bc e.place f e.x.2.args).1) with
  | none=>rw[hen]at this;cases this
  | some bs=>
    rw[Option.getD_some,Xo hen]
    unfold jI cr
    rcases hcode with hk|hk
    ·rw[if_pos hk,if_pos hk]
    ·have hk1:¬ e.x.2.kind=1:=by omega
     have ho:=(w.wf.grow hk).1
     have hsz:∀ n,n<3→l7 (po n)=4∧l7 (ir n)=2:=by decide
     simp only[if_neg hk1,if_pos hk]
     cases e.grown
     ·simp only[Bool.false_eq_true,if_false];rw[(hsz _ ho).2];rfl
     ·simp only[if_true];rw[(hsz _ ho).1];rfl
 ·rename_i hcode
  split
  ·rename_i hd
   have hfl:∀ (n:Nat) (vs:List Int),(vs.flatMap (beB n)).length=vs.length*n:=by
    intro n vs
    induction vs with
    | nil=>simp
    | cons a l ih=>rw[List.flatMap_cons,List.length_append,ih,Q0,List.length_cons,Nat.add_mul];omega
   rw[hfl,hlen]
   unfold jI
   unfold dI at hcode
   unfold eF at hd
   rw[if_neg (by omega),if_neg (by omega),if_pos hd]
   push_cast;rfl
  ·rename_i hd
   unfold dI at hcode
   unfold eF at hd
   split
   ·rename_i h6
    unfold jI
    rw[if_neg (by omega),if_neg (by omega),if_neg (by omega),if_pos h6];simp
   ·rw[List.length_replicate]
    have:=(wj w.wf hs w.lo).1
    omega
def AJ (f:Str→Option Int) (es:List En):Int:=(es.map (jI f)).sum
theorem Fi (f:Str→Option Int):∀ (es:List En) (st:List En×Int),st.2=AJ f st.1→(es.foldl (kP f) st).2=AJ f (es.foldl (kP f) st).1
 | [],_,h=>h
 | e::es,st,h=>by
   rw[List.foldl_cons]
   refine Fi f es _ ?_
   simp only[kP,AJ,List.map_append,List.sum_append,List.map_cons,List.map_nil,List.sum_cons,List.sum_nil]at h ⊢
   omega
theorem Ir (f:Str→Option Int):∀ (n:Nat) (es:List En),∃ es',iP f n es=ij f es'
 | 0,es=>⟨es,rfl⟩
 | n+1,es=>by
   unfold iP
   split
   ·exact Ir f n _
   ·exact⟨es,rfl⟩
theorem TA (f:Str→Option Int) (n:Nat) (es:List En):(iP f n es).2.2=AJ f (iP f n es).1:=by
 obtain⟨es',h⟩:=Ir f n es
 rw[h]
 exact Fi f es' ([],0) rfl
theorem SN {f:Str→Option Int}{es:List En}(h:∀ e∈es,0≤jI f e) (q:Nat):AJ f (es.take q)≤AJ f es:=by
 have hpos:∀ l:List En,(∀ e∈l,0≤jI f e)→0≤AJ f l:=by
  intro l
  induction l with
  | nil=>intro _;simp[AJ]
  | cons a l ih=>
    intro hl
    have:=ih fun e he=>hl e (.tail _ he)
    have:=hl a (.head _)
    simp only[AJ,List.map_cons,List.sum_cons]at *;omega
 conv=>rhs;rw[← List.take_append_drop q es]
 have:=hpos (es.drop q) fun e he=>h e (List.mem_of_mem_drop he)
 simp only[AJ,List.map_append,List.sum_append]at *;omega
theorem Nb {f g:Str→Option Int}{es0:List En}:∀ (es:List En),(∀ e∈es,PlE e∧SzOk g e∧chD f es0 e=[])→((es.flatMap (oe g f)).length:Int)=AJ g es
 | [],_=>by simp[AJ]
 | e::es,h=>by
   have ih:=Nb es fun x hx=>h x (.tail _ hx)
   obtain⟨h1,h2,h3⟩:=h e (.head _)
   have:=T3 h1 h2 h3
   simp only[List.flatMap_cons,List.length_append,AJ,List.map_cons,List.sum_cons]at *
   omega
variable {h0 h h':ae}{M:List Nat}{Q:QT}{K:AV→Prop}{KS:ae→Prop}
theorem TF {frags:List Fg}{syms:List Sy}(h:iT frags syms=[]):(cJ frags syms).2.2≤4096∧∀ e∈(cJ frags syms).1,chD (cJ frags syms).2.1 (cJ frags syms).1 e=[]:=by
 unfold iT at h
 split at h
 ·rename_i h1;exact (h1 h).elim
 split at h
 ·rename_i h1;exact (h1 h).elim
 split at h
 ·rename_i h1;exact (h1 h).elim
 split at h
 ·cases h
 rename_i h4
 rw[List.flatMap_eq_nil_iff]at h
 exact⟨by omega,h⟩
theorem Jd (frags:List Fg) (syms:List Sy) (hw:Few frags syms):(iT frags syms).length<2000000:=by
 have h1:=hw.bads
 have h2:=hw.ents
 have htw:∀ (es:List En) (st:TwS) (b:Nat),TwB st b→TwB (es.foldl twE st) (b+2*es.length):=by
  intro es
  induction es with
  | nil=>intro st b h;simpa using h
  | cons e es ih=>
    intro st b h
    rw[List.foldl_cons,List.length_cons]
    have hn:∀ (nm:List Str) (st:TwS) (b:Nat),TwB st b→TwB (nm.foldl (twN e) st) (b+nm.length):=by
     intro nm
     induction nm with
     | nil=>intro st b h;simpa using h
     | cons n nm ih2=>
       intro st b h
       rw[List.foldl_cons,List.length_cons]
       have:=ih2 _ _ (h.step e n)
       exact⟨by have:=this.1;omega,fun k=>by have:=this.2 k;omega⟩
    have hl:(nr e).length≤2:=by unfold nr;split<;>simp
    have h3:=hn (nr e) st b h
    have h4:=ih (twE st e) (b+2) ⟨by have:=h3.1;unfold twE;omega,fun k=>by have:=h3.2 k;unfold twE;omega⟩
    exact⟨by have:=h4.1;omega,fun k=>by have:=h4.2 k;omega⟩
 have h5:=htw (fh frags) (tw0 (gQ syms)) 0 ⟨by simp[tw0],fun k=>by simp[tw0];cases gQ syms k<;>simp⟩
 have h6:=tj (Rz (gQ syms)) (fh frags)
 have h7:=tj (Sv (cJ frags syms).2.1 (cJ frags syms).1) (cJ frags syms).1
 have h8:(cJ frags syms).1.length=(fh frags).length:=by
  unfold cJ
  have:∀ (f:Str→Option Int) (n:Nat) (es:List En),(iP f n es).1.length=es.length:=by
   intro f n
   induction n with
   | zero=>intro es;exact km f es
   | succ n ih=>
     intro es
     unfold iP
     split
     ·rw[ih,List.length_map,km]
     ·exact km f es
  exact this _ _ _
 unfold iT
 split
 ·omega
 split
 ·have:=h5.1;unfold tM;omega
 split
 ·omega
 split
 ·simp
 ·omega
theorem rh (hF:cD) (hI:g6) (hA:jT) (hL:dL) {frags:List Fg}{syms:List Sy}{fv sv:AV}(rf:Row frE 2 h fv frags) (rs:Row syE 2 h sv syms) (hw:Few frags syms)
  (kb:iT frags syms≠[]→∀ h',Fr [] h h'→Q (.tup [.full 0 [],.snap (iT frags syms).length ((iT frags syms).flatMap dE)]) h')
  (kg:iT frags syms=[]→∀ h',Fr [] h h'→Q (.tup [.snap (Kf frags syms).length ((Kf frags syms).flatMap bE),.full 0 []]) h'):C fp [fv,sv] h Q:=by
 refine DL _ _ _ _ ?_
 unfold AR
 refine Ry hF hI hA hL rf rs hw (fun hne i js l lv dv kn sz kvs EL ED R h1 s1=>?_) (fun hnil i js l lv dv jk kvk kvs EL ED R h1 hel hwl nds hfs ndk hfk s1=>?_)
 ·have si:=St.startr s1.src
  refine aw (aj (af si (.head _) rfl ?_))
  have rd:=s1.ad.rd s1.st
  refine oX rd ?_
  refine bx ?_
  have hlen:0<(iT frags syms).length:=List.length_pos_iff.2 hne
  refine ah (fun _=>?_) (fun h=>by simp at h;exact (hne h).elim)
  refine aw (aj (af si (.head _) rfl ?_))
  have:=Jd frags syms hw
  refine Ah (by omega) rd fun h2 f2=>?_
  exact kb hne h2 (s1.call f2).st.fr
 ·have si:=St.startr s1.src
  refine aw (aj (af si (.head _) rfl ?_))
  refine oX (s1.ad.rd s1.st) ?_
  refine bx ?_
  refine ah (fun h=>by simp at h) (fun _=>?_)
  refine aw (aj (af si (.head _) rfl ?_))
  clear si
  refine s1.row.len ?_
  obtain⟨hsz,hch⟩:=TF hnil
  have hent:∀ e∈(cJ frags syms).1,PlE e∧SzOk (gQ syms) e∧chD (cJ frags syms).2.1 (cJ frags syms).1 e=[]:=by
   intro e he
   have he2:=he
   rw[← hel,List.mem_map]at he2
   obtain⟨x,hx,rfl⟩:=he2
   exact⟨(hwl x hx).1,(hwl x hx).2,hch _ he⟩
  have hsum:(cJ frags syms).2.2=AJ (gQ syms) (cJ frags syms).1:=TA _ _ _
  have hlong:∀ e∈(cJ frags syms).1,0≤jI (gQ syms) e:=fun e he=>(wj (hent e he).1.wf (hent e he).2.1 (hent e he).1.lo).1
  have hll:l.length=(fh frags).length:=by
   have h1:=congrArg List.length hel
   have h8:∀ (f:Str→Option Int) (n:Nat) (es:List En),(iP f n es).1.length=es.length:=by
    intro f n
    induction n with
    | zero=>intro es;exact km f es
    | succ n ih=>
      intro es
      unfold iP
      split
      ·rw[ih,List.length_map,km]
      ·exact km f es
   rw[List.length_map]at h1
   rw[h1];exact h8 _ _ _
  have hents:=hw.ents
  have hpre:∀ q,(((l.take q).map (·.2)).flatMap (oe (gQ syms) (cJ frags syms).2.1)).length≤4096:=by
   intro q
   rw[List.map_take,hel]
   have h1:=Nb (f:=(cJ frags syms).2.1) (g:=gQ syms) (es0:=(cJ frags syms).1) ((cJ frags syms).1.take q) fun e he=>hent e (List.mem_of_mem_take he)
   have h2:=SN hlong q
   omega
  refine aP (fun n vs h'=>∃ (q:Nat) (v:AV) (E:Own),vs=[v,I (q:Nat)]∧n+q=l.length∧AccE 1 v (((l.take q).map (·.2)).flatMap (oe (gQ syms) (cJ frags syms).2.1)).length ((((l.take q).map (·.2)).flatMap (oe (gQ syms) (cJ frags syms).2.1)).flatMap bE) E∧SS h [] h' i js l [] lv dv (.map jk) (cJ frags syms).2.2 kvs EL ED (E++((jk,true,bC kvk)::R))) l.length ⟨0,.full 0 [],[],rfl,by omega,.none 1,s1⟩ ?_
  rintro n vs h2 ⟨q,v,E,rfl,hn,a,s2⟩
  unfold vh
  (repeat refine aJ ?_)
  refine ah (fun hq=>?_) (fun hq=>?_)<;>simp only[za,zb,zc,zd,ze,zf,zg,zh,zi,u8i,zj,zk,zl]at hq
  ·have hq:q<l.length:=hq
   have hm:=List.getElem_mem hq
   refine s2.row.idx (fun _=>rfl) hq fun p t=>?_
   refine aH t ?_
   have hme:l[q].2∈(cJ frags syms).1:=by rw[← hel];exact List.mem_map.2 ⟨_,hm,rfl⟩
   have hsucc:=vz (oe (gQ syms) (cJ frags syms).2.1) hq
   have hq1:=hpre (q+1)
   rw[hsucc,List.length_append]at hq1
   have hw0:=XC (hent _ hme).2.2
   refine VP hF hL (s2.ent _ hm) (hwl _ hm).1 s2.src ⟨kvk,s2.rget (List.mem_append_right _ (.head _)),ndk,hfk⟩ ⟨kvs,s2.syms,nds,hfs⟩ (hwl _ hm).2 (fun hc=>⟨hw0.1,by rw[Jk];exact (hw0.2 hc).2⟩) fun u h3 f3 ru=>?_
   have s3:=s2.call f3
   refine a.app s3.backL (m:=(oe (gQ syms) (cJ frags syms).2.1 l[q].2).length) (xs:=(oe (gQ syms) (cJ frags syms).2.1 l[q].2).flatMap bE) ru (by
    have:∀ l:List Int,(l.flatMap bE).all AV.one=true:=fun l=>by
     induction l with
     | nil=>rfl
     | cons a l ih=>rw[List.flatMap_cons,List.all_append,ih];rfl
    exact this _) (by omega) fun v4 E4 h4 a4 s4=>?_
   refine aI (by omega) ?_
   refine⟨n-1,by omega,q+1,v4,E4,rfl,by omega,?_,SS.frontL s4 s3.unL⟩
   rw[hsucc,List.length_append,List.flatMap_append];exact a4
  ·have hq:q=l.length:=by omega
   subst hq
   have h1:=hpre l.length
   rw[List.take_length]at a h1
   refine rv (by omega) (a.rd s2.backL) fun h3 f3=>?_
   rw[hel]
   exact kg hnil h3 (s2.call f3).st.fr
end
end
section
section
variable [Tabs]
def Gx (frags:List Fg) (syms:List Sy):List Int:=((cJ frags syms).1.filter fun e=>decide (e.x.2.kind=2)).map (jI (gQ syms))
variable {h0 h h':ae}{M:List Nat}{Q:QT}{K:AV→Prop}{KS:ae→Prop}
theorem Ij (f:Str→Option Int):∀ (n:Nat) (es:List En),(iP f n es).1.length=es.length
 | 0,es=>km f es
 | n+1,es=>by
   unfold iP
   split
   ·rw[Ij f n,List.length_map,km]
   ·exact km f es
theorem Vr (hF:cD) (hI:g6) (hA:jT) (hL:dL) {frags:List Fg}{syms:List Sy}{fv sv:AV}(rf:Row frE 2 h fv frags) (rs:Row syE 2 h sv syms) (hw:Few frags syms)
  (kb:iT frags syms≠[]→∀ h',Fr [] h h'→Q (.tup [.full 0 [],B false]) h')
  (kg:iT frags syms=[]→∀ h',Fr [] h h'→Q (.tup [.snap (Gx frags syms).length ((Gx frags syms).flatMap iE),B true]) h'):C uN [fv,sv] h Q:=by
 refine JF _ _ _ _ ?_
 unfold IT
 refine Ry hF hI hA hL rf rs hw (fun hne i js l lv dv kn sz kvs EL ED R h1 s1=>?_) (fun hnil i js l lv dv jk kvk kvs EL ED R h1 hel hwl nds hfs ndk hfk s1=>?_)
 ·have si:=St.startr s1.src
  refine aw (aj (af si (.head _) rfl ?_))
  have rd:=s1.ad.rd s1.st
  refine oX rd ?_
  refine bx ?_
  have hlen:0<(iT frags syms).length:=List.length_pos_iff.2 hne
  refine ah (fun _=>?_) (fun h=>by simp at h;exact (hne h).elim)
  exact kb hne h1 s1.st.fr
 ·have si:=St.startr s1.src
  refine aw (aj (af si (.head _) rfl ?_))
  refine oX (s1.ad.rd s1.st) ?_
  refine bx ?_
  refine ah (fun h=>by simp at h) (fun _=>?_)
  refine aw (aj (af si (.head _) rfl ?_))
  clear si
  refine s1.row.len ?_
  have hll:l.length=(fh frags).length:=by
   have h1:=congrArg List.length hel
   rw[List.length_map]at h1
   rw[h1];exact Ij _ _ _
  have hents:=hw.ents
  let gB:Nat×En→Bool:=fun x=>decide (x.2.x.2.kind=2)
  refine aP (fun n vs h'=>∃ (q:Nat) (v:AV) (E:Own),vs=[v,I (q:Nat)]∧n+q=l.length∧AccE 1 v (((l.take q).filter gB).map fun x=>jI (gQ syms) x.2).length ((((l.take q).filter gB).map fun x=>jI (gQ syms) x.2).flatMap iE) E∧SS h [] h' i js l [] lv dv (.map jk) (cJ frags syms).2.2 kvs EL ED (E++((jk,true,bC kvk)::R))) l.length ⟨0,.full 0 [],[],rfl,by omega,.none 1,s1⟩ ?_
  rintro n vs h2 ⟨q,v,E,rfl,hn,a,s2⟩
  have hfl:(((l.take q).filter gB).map fun x=>jI (gQ syms) x.2).length≤100000:=by
   have:=List.length_filter_le gB (l.take q)
   rw[List.length_take]at this
   rw[List.length_map];omega
  unfold Ax
  (repeat refine aJ ?_)
  refine ah (fun hq=>?_) (fun hq=>?_)<;>simp only[za,zb,zc,zd,ze,zf,zg,zh,zi,u8i,zj,zk,zl]at hq
  ·have hq:q<l.length:=hq
   have hm:=List.getElem_mem hq
   have hno:gB l[q]=false→(l.take (q+1)).filter gB=(l.take q).filter gB:=fun hb=>by
    rw[List.take_succ_eq_append_getElem hq,List.filter_append];simp[hb]
   have hyes:gB l[q]=true→(l.take (q+1)).filter gB=(l.take q).filter gB++[l[q]]:=fun hb=>by
    rw[List.take_succ_eq_append_getElem hq,List.filter_append];simp[hb]
   refine s2.row.idx (fun _=>rfl) hq fun p t=>?_
   refine aH t ?_
   have sp:=St.startr (s2.ent _ hm)
   unfold enE at sp
   refine aw (aj (aj (af sp (.head _) rfl (aA ?_))))
   have hlo:=(hwl _ hm).1.lo
   have hhi:=(hwl _ hm).1.hi
   refine ah (fun hb=>?_) (fun hb=>?_)<;>simp only[za,zb,zc,zd,ze,zf,zg,zh,zi,u8i,zj,zk,zl]at hb
   ·have hb:gB l[q]=true:=by show decide (l[q].2.x.2.kind=2)=true;simp;omega
    refine JK (s2.ent _ hm) (hwl _ hm).1.wf s2.src ⟨kvs,s2.syms,nds,hfs⟩ (hwl _ hm).2 ⟨hlo,hhi⟩ fun h3 f3=>?_
    have s3:=s2.call f3
    refine aB rfl rfl ?_
    refine a.app s3.backL (xs:=iE (jI (gQ syms) l[q].2)) (m:=1) (Rd.full rfl) rfl (by omega) fun v3 E3 h8 a3 s8=>?_
    unfold pr uQ
    refine aI (by omega) ?_
    refine⟨n-1,by omega,q+1,v3,E3,rfl,by omega,?_,SS.frontL s8 s3.unL⟩
    rw[hyes hb,List.map_append,List.flatMap_append,List.length_append];exact a3
   ·have hb:gB l[q]=false:=by show decide (l[q].2.x.2.kind=2)=false;simp;omega
    unfold pr uQ
    refine aI (by omega) ?_
    refine⟨n-1,by omega,q+1,v,E,rfl,by omega,?_,s2⟩
    rw[hno hb];exact a
  ·have hq:q=l.length:=by omega
   subst hq
   rw[List.take_length]at a hfl
   have hg:(l.filter gB).map (fun x=>jI (gQ syms) x.2)=Gx frags syms:=by
    unfold Gx
    rw[← hel,List.filter_map,List.map_map];rfl
   rw[hg]at a hfl
   refine Ad (by omega) (a.rd s2.backL) fun h3 f3=>?_
   exact kg hnil h3 (s2.call f3).st.fr
end
end
section
abbrev Vi:Iq:=fun _ _ _ _ _=>none
section
theorem QQ [Tabs]:(kindsL.all fun p=>Mb Pg tb5 Vi 100 ef [T p.1] .leaf 0 fun r t _=>Oa (.snap p.2.length (p.2.flatMap fun x=>[T x])) r t)=true:=by kernel_rfl
theorem T8 [Tabs]:([8,15,19,24].all fun b:Nat=>Mb Pg tb5 Vi 100 sw [.lit (.float .f64 4607182418800017408),I (b:Nat)] .leaf 0 fun r t _=>Oa (.lit (.float .f64 (FloatKind.f64.nearest (2^b:Nat)))) r t)=true:=by kernel_rfl
def digs:List UInt8:=[48,49,50,51,52,53,54,55,56,57]
def twoDigs:List Str:=(digs.map fun a=>[a])++digs.flatMap fun a=>digs.map fun b=>[a,b]
theorem Vo [Tabs]:(twoDigs.all fun s=>Mb Pg tb5 Vi 100 em [T s] .leaf 0 fun r t _=>Oa (.tup [I (s.foldl (fun n c=>n*10+(c.toNat-48)) 0:Nat),.lit .nilIface]) r t)=true:=by kernel_rfl
theorem EF {c:UInt8}(h:rN c=true):c∈digs:=by
 unfold rN bu at h
 simp only[Bool.and_eq_true,decide_eq_true_eq]at h
 have:∀ n,48≤n→n≤57→UInt8.ofNat n∈digs:=by
  intro n h1 h2
  have:n=48∨n=49∨n=50∨n=51∨n=52∨n=53∨n=54∨n=55∨n=56∨n=57:=by omega
  rcases this with h|h|h|h|h|h|h|h|h|h<;>subst h<;>decide
 have h3:=this c.toNat h.1 h.2
 rwa [UInt8.ofNat_toNat]at h3
theorem X9 {s:Str}(h1:1≤s.length) (h2:s.length≤2) (h:s.all rN=true):s∈twoDigs:=by
 match s with
 | []=>simp at h1
 | [a]=>
   simp only[List.all_cons,List.all_nil,Bool.and_true]at h
   exact List.mem_append_left _ (List.mem_map.2 ⟨a,EF h,rfl⟩)
 | [a,b]=>
   simp only[List.all_cons,List.all_nil,Bool.and_true,Bool.and_eq_true]at h
   exact List.mem_append_right _ (List.mem_flatMap.2 ⟨a,EF h.1,List.mem_map.2 ⟨b,EF h.2,rfl⟩⟩)
 | a::b::c::r=>simp at h2
variable [Tabs5]
theorem NA:cD:=fun p hp h Q q=>nH Tabs5.tb sH (d:=100) (.snap p.2.length (p.2.flatMap fun x=>[T x])) rfl (by
 have:∀ l:List Str,clL (l.flatMap fun x=>[T x])=true:=fun l=>by
  induction l with
  | nil=>rfl
  | cons a l ih=>show (cl (T a)&&clL (l.flatMap fun x=>[T x]))=true;rw[ih];rfl
 exact this _) (List.all_eq_true.1 QQ p hp) q
theorem Se:dL:=fun b hb h Q q=>nH Tabs5.tb sH (d:=100) (.lit (.float .f64 (FloatKind.f64.nearest (2^b:Nat)))) rfl rfl (List.all_eq_true.1 T8 b hb) q
theorem U0:jT:=fun s h1 h2 h3 h Q q=>nH Tabs5.tb sH (d:=100) _ rfl rfl (List.all_eq_true.1 Vo s (X9 h1 h2 h3)) q
theorem So:g6:=fun s sub h Q hs q=>by
 have hI:=Yi
 refine⟨hI.1,fun G w vs si r=>?_⟩
 obtain⟨x,y,hx,ha,hb⟩:=r.two
 simp only[Rep]at ha hb
 obtain⟨rfl,_⟩:=ha
 obtain⟨rfl,_⟩:=hb
 obtain⟨m,hm⟩:=Tabs5.m0 _ si.tab
 subst hx
 refine (hI.2 ⟨⟨s⟩⟩ ⟨⟨sub⟩⟩ m w hs (si.frz _ _ _ hm)).mono fun e w' ⟨he,hw⟩=>?_
 subst hw
 exact⟨I (Lib.index s sub),_,h,G,he,by simp[Rep,Value.oneCell'],q,si,Evo.refl _ _ _⟩
end
end
end
end Go.Proofs.YtbhphjpgjgigpaaGreatDoor.AL
