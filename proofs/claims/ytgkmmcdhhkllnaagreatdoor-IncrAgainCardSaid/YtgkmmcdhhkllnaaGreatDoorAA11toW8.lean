import Derived.Test.YtgkmmcdhhkllnaaGreatDoorAA5toAA10
import Derived.Test.YtgkmmcdhhkllnaaGreatDoorSB
import Derived.Test.YtgkmmcdhhkllnaaGreatDoorAM4toAM6
import Derived.Test.YtgkmmcdhhkllnaaGreatDoorAL27toAL31
import Derived.MapKept
import Derived.Test.YtgkmmcdhhkllnaaGreatDoorAE5toAN4
import Derived.Test.YtgkmmcdhhkllnaaGreatDoorF9
set_option linter.all false
set_option autoImplicit true
set_option relaxedAutoImplicit true
set_option maxRecDepth 100000
namespace Go.Proofs.YtgkmmcdhhkllnaaGreatDoor.AL
section
noncomputable section
section
variable [Tabs]
def rP (f:Str→Option Int) (e:En):Bool:=decide (e.x.2.kind=2)&&(!e.grown&&(decide ((bJ e.place f (bM e)).2=0)&&!(nc (jK 0) [(bJ e.place f (bM e)).1-e.place]).isSome))
end
def UE (e:En):En:=⟨e.frag,e.x,e.place,true⟩
def gX (x:Nat×En):Nat×En:=(x.1,UE x.2)
def grF (p:Nat×En→Bool):Nat→List (Nat×En)→List (Nat×En)
 | 0,l=>l
 | _+1,[]=>[]
 | t+1,x::l=>if p x=true then gX x::grF p t l else x::grF p (t+1) l
theorem YV (p:Nat×En→Bool) (l:List (Nat×En)):grF p 0 l=l:=by cases l<;>simp[grF]
theorem Hb (p:Nat×En→Bool):∀ (l:List (Nat×En)) (t:Nat) (ht:t<(l.filter p).length),∃ q,∃ hq:q<(grF p t l).length,(grF p t l)[q]=(l.filter p)[t]∧grF p (t+1) l=(grF p t l).set q (gX (l.filter p)[t])
 | [],t,ht=>by simp at ht
 | x::l,t,ht=>by
   by_cases hp:p x=true
   ·cases t with
    | zero=>exact⟨0,by simp[grF],by simp[grF,hp],by simp[grF,hp]⟩
    | succ t=>
      have ht2:t<(l.filter p).length:=by simpa [List.filter_cons,hp] using ht
      obtain⟨q,hq,h1,h2⟩:=Hb p l t ht2
      refine⟨q+1,by simp[grF,hp];exact hq,?_,?_⟩
      ·simp[grF,hp,List.filter_cons,h1]
      ·simp[grF,hp,List.filter_cons,h2]
   ·have hf:(x::l).filter p=l.filter p:=by simp[List.filter_cons,hp]
    have ht2:t<(l.filter p).length:=by rw[hf]at ht;exact ht
    obtain⟨q,hq,h1,h2⟩:=Hb p l t ht2
    cases t with
    | zero=>
      refine⟨q+1,by simp[grF]at hq ⊢;exact hq,?_,?_⟩
      ·simp[grF,hf];simpa [grF] using h1
      ·simp[grF,hp,hf];simpa [grF] using h2
    | succ t=>
      refine⟨q+1,by simp[grF,hp];exact hq,?_,?_⟩
      ·simp[grF,hp,hf,h1]
      ·simp[grF,hp,hf];simpa [grF] using h2
theorem Fe (p:Nat×En→Bool):∀ l:List (Nat×En),grF p (l.filter p).length l=l.map fun x=>if p x=true then gX x else x
 | []=>by simp[grF]
 | x::l=>by
   by_cases hp:p x=true
   ·simp[List.filter_cons,hp,grF,Fe p l]
   ·have hf:(x::l).filter p=l.filter p:=by simp[List.filter_cons,hp]
    rw[hf,List.map_cons,if_neg hp]
    cases hn:(l.filter p).length with
    | zero=>
      have:=Fe p l
      rw[hn]at this
      simp only[grF]at this ⊢
      rw[← this]
    | succ n=>
      have:=Fe p l
      rw[hn]at this
      rw[grF,if_neg hp,this]
section
variable [Tabs]
def m4 (f:Str→Option Int) (e:En):En:=if rP f e=true then UE e else e
variable {h0 h h':ae}{M:List Nat}{Q:QT}{K:AV→Prop}
variable {i js:Nat}{l:List (Nat×En)}{ds:List Dg}{lv dv kn:AV}{sz:Int}{kvs:KV}{EL ED R:Own}
theorem SS.frontL {E:Own}(s':St h0 M h' (E++(ED++((i,true,eC lv js kn dv sz)::(js,true,bz kvs)::(EL++(cx l++R)))))) (s:SS h0 M h i js l ds lv dv kn sz kvs EL ED R):SS h0 M h' i js l ds lv dv kn sz kvs EL ED (E++R):=⟨s.al,s.ad,s'.perm (by
 have hx:∀ R:Own,(ED++((i,true,eC lv js kn dv sz)::(js,true,bz kvs)::(EL++(cx l++R))))=(ED++((i,true,eC lv js kn dv sz)::(js,true,bz kvs)::(EL++cx l)))++R:=fun R=>by simp
 rw[hx R,hx (E++R),← List.append_assoc,← List.append_assoc _ E]
 exact List.Perm.append_right _ List.perm_append_comm)⟩
theorem SS.backL {E:Own}(s:SS h0 M h i js l ds lv dv kn sz kvs EL ED (E++R)):St h0 M h (E++(ED++((i,true,eC lv js kn dv sz)::(js,true,bz kvs)::(EL++(cx l++R))))):=s.st.perm (by
 have hx:∀ R:Own,(ED++((i,true,eC lv js kn dv sz)::(js,true,bz kvs)::(EL++(cx l++R))))=(ED++((i,true,eC lv js kn dv sz)::(js,true,bz kvs)::(EL++cx l)))++R:=fun R=>by simp
 rw[hx R,hx (E++R)]
 exact List.perm_append_comm_assoc _ _ _)
theorem SS.unL {E:Own}(s:SS h0 M h i js l ds lv dv kn sz kvs EL ED (E++R)):SS h0 M h i js l ds lv dv kn sz kvs EL ED R:=s.unR (List.sublist_append_right _ _)
theorem WM:jK 0<tbl.length:=by decide
theorem Zc (hF:cy) (hL:dN) (hl:l.length<10000000) {f:Str→Option Int}{jk:Nat}{kv:KV}(nd:(bN kv).Nodup) (hf:∀ k,bu k kv=f k) (w:∀ x∈l,PlE x.2)
  (s:SS h0 M h i js l ds lv dv (.map jk) sz kvs EL ED ((jk,true,bz kv)::R))
  (k:∀ h',SS h0 M h' i js (l.map fun x=>(x.1,m4 f x.2)) ds lv dv (.map jk) sz kvs EL ED ((jk,true,bz kv)::R)→Q (B ((l.map (·.2)).any (rP f))) h'):C ll [.ptr i 0] h Q:=by
 refine Ah _ _ _ ?_
 unfold vF
 have si:=St.startr s.src
 (repeat (first|refine au ?_|refine aj ?_|refine af ‹_› (.head _) rfl ?_))
 clear si
 refine s.row.len ?_
 let pB:Nat×En→Bool:=fun x=>rP f x.2
 refine aP (fun n vs h'=>∃ (q:Nat) (v:AV) (E:Own),vs=[v,I (q:Nat)]∧n+q=l.length∧AccE 1 v ((l.take q).filter pB).length (((l.take q).filter pB).flatMap pE) E∧SS h0 M h' i js l ds lv dv (.map jk) sz kvs EL ED (E++((jk,true,bz kv)::R))) l.length ⟨0,.full 0 [],[],rfl,by omega,.none 1,s⟩ ?_
 rintro n vs h1 ⟨q,v,E,rfl,hn,a,s1⟩
 unfold pF
 (repeat refine aJ ?_)
 refine ah (fun hq=>?_) (fun hq=>?_)<;>simp only[za,zb,zc,zd,ze,zf,zg,zh,zi,u8i,zj,zk,zl]at hq
 ·have hq:q<l.length:=hq
  have hm:=List.getElem_mem hq
  have hw:=w _ hm
  have hlo:=hw.lo
  have hhi:=hw.hi
  have hfl:((l.take q).filter pB).length≤q:=by
   have:=List.length_filter_le pB (l.take q)
   rw[List.length_take]at this;omega
  refine s1.row.idx (fun _=>rfl) hq fun p t=>?_
  refine aI t ?_
  have sp:=St.startr (s1.ent _ hm)
  have si:=St.startr s1.src
  unfold enE at sp
  have hno:pB l[q]=false→(l.take (q+1)).filter pB=(l.take q).filter pB:=fun hb=>by
   rw[List.take_succ_eq_append_getElem hq,List.filter_append];simp[hb]
  have hyes:pB l[q]=true→(l.take (q+1)).filter pB=(l.take q).filter pB++[l[q]]:=fun hb=>by
   rw[List.take_succ_eq_append_getElem hq,List.filter_append];simp[hb]
  have skip:pB l[q]=false→∀ h',SS h0 M h' i js l ds lv dv (.map jk) sz kvs EL ED (E++((jk,true,bz kv)::R))→cC v (I (q:Nat)) h' (fun vs' h'=>∃ m,m<n∧∃ (q:Nat) (v:AV) (E:Own),vs'=[v,I (q:Nat)]∧m+q=l.length∧AccE 1 v ((l.take q).filter pB).length (((l.take q).filter pB).flatMap pE) E∧SS h0 M h' i js l ds lv dv (.map jk) sz kvs EL ED (E++((jk,true,bz kv)::R))):=by
   intro hb h' s'
   unfold cC lu
   refine aH (by omega) ?_
   exact⟨n-1,by omega,q+1,v,E,rfl,by omega,by rw[hno hb];exact a,s'⟩
  refine au (aj (aj (af sp (.head _) rfl (bT ?_))))
  refine ah (fun h2=>?_) (fun h2=>?_)<;>simp only[za,zb,zc,zd,ze,zf,zg,zh,zi,u8i,zj,zk,zl]at h2
  ·exact skip (by show rP f l[q].2=false;unfold rP;rw[show decide (l[q].2.x.2.kind=2)=false by simp;omega];rfl) h1 s1
  ·have h2:l[q].2.x.2.kind=2:=by omega
   refine au (aj (af sp (.head _) rfl ?_))
   have hgb:pB l[q]=(!l[q].2.grown&&(decide ((bJ l[q].2.place f (bM l[q].2)).2=0)&&!(nc (jK 0) [(bJ l[q].2.place f (bM l[q].2)).1-l[q].2.place]).isSome)):=by
    show rP f l[q].2=_
    unfold rP;rw[show decide (l[q].2.x.2.kind=2)=true by simpa using h2,Bool.true_and]
   cases hg:l[q].2.grown with
   | true=>exact ah (fun _=>skip (by rw[hgb,hg];rfl) h1 s1) (fun h=>by cases h)
   | false=>
     refine ah (fun h=>by cases h) (fun _=>?_)
     rw[hg,Bool.not_false,Bool.true_and]at hgb
     have hrd:0<l[q].2.x.2.args.length:=by
      have:=(hw.wf.grow h2).2.1
      have h3:∀ n,n<3→0<(cT (bp (jK n))).length:=by decide
      have:=h3 _ (hw.wf.grow h2).1
      omega
     have hne:l[q].2.x.2.args≠[]:=List.length_pos_iff.1 hrd
     have hlast:=yz hw.wf hne
     refine au (aj (af sp (.head _) rfl (au (aj (af si (.head _) rfl ?_)))))
     refine yx (s1.ent _ hm) hw.wf hne fun h3 f3=>?_
     refine⟨af (si.call f3) (.head _) rfl rfl,af (sp.call f3) (.head _) rfl rfl,?_⟩
     have mm:MapAt h1 jk f:=⟨kv,s1.rget (List.mem_append_right _ (.head _)),nd,hf⟩
     refine qS hlast.1 hlast.2 _ (mm.fr f3) fun h4 f4=>?_
     have s4:=(s1.call f3).call f4
     have hin:=FO l[q].2.place f (bM l[q].2)
     generalize bJ l[q].2.place f (bM l[q].2)=ev at hgb hin ⊢
     refine aF rfl (aF rfl (aA ?_))
     refine ah (fun he=>?_) (fun he=>?_)<;>simp only[za,zb,zc,zd,ze,zf,zg,zh,zi,u8i,zj,zk,zl]at he
     ·rw[show decide (ev.2=0)=true by simpa using he,Bool.true_and]at hgb
      have sp4:=St.startr (s4.ent _ hm)
      unfold enE at sp4
      refine au (aj (af sp4 (.head _) rfl (cH (by omega) (aB rfl rfl ?_))))
      refine PA (n:=0) (by decide) fun h5 f5=>?_
      refine⟨af (sp4.call f5) (.head _) rfl rfl,?_⟩
      refine aD rfl ?_
      have s5:=s4.call f5
      refine Pe hF hL WM [ev.1-l[q].2.place] (by intro x hx;simp at hx;subst hx;unfold dQ;omega) (Row.full (enc:=iE) (fun _=>rfl) [ev.1-l[q].2.place]) fun h6 f6=>?_
      have s6:=s5.call f6
      refine bP ?_
      cases hc:(nc (jK 0) [ev.1-l[q].2.place]).isSome with
      | true=>exact ah (fun h=>by cases h) (fun _=>skip (by rw[hgb,hc];rfl) h6 s6)
      | false=>
        refine ah (fun _=>?_) (fun h=>by cases h)
        refine aB rfl rfl ?_
        have hb:pB l[q]=true:=by rw[hgb,hc];rfl
        refine a.app s6.backL (xs:=pE l[q]) (m:=1) (Rd.full rfl) rfl (by omega) fun v3 E3 h8 a3 s8=>?_
        unfold cC lu
        refine aH (by omega) ?_
        refine⟨n-1,by omega,q+1,v3,E3,rfl,by omega,?_,SS.frontL s8 s6.unL⟩
        rw[hyes hb];simpa using a3
     ·exact skip (by rw[hgb,show decide (ev.2=0)=false by simpa using he];rfl) h4 s4
 ·have hq:q=l.length:=by omega
  subst hq
  rw[List.take_length]at a
  have hflen:(l.filter pB).length≤l.length:=List.length_filter_le _ _
  have rowF:∀ h l',SS h0 M h i js l' ds lv dv (.map jk) sz kvs EL ED (E++((jk,true,bz kv)::R))→Row pE 1 h v (l.filter pB):=fun h l' s=>a.rd s.backL
  refine (rowF _ _ s1).len ?_
  have hany:(l.map (·.2)).any (rP f)=decide (0<(l.filter pB).length):=by
   rw[List.any_map,Bool.eq_iff_iff,decide_eq_true_eq,List.any_eq_true]
   constructor
   ·rintro ⟨x,hx,hp⟩;exact List.length_pos_of_mem (List.mem_filter.2 ⟨hx,hp⟩)
   ·intro hp
    obtain⟨x,hx⟩:=List.exists_mem_of_length_pos hp
    rw[List.mem_filter]at hx
    exact⟨x,hx.1,hx.2⟩
  rw[hany]at k
  have hall:(l.map fun x=>(x.1,m4 f x.2))=grF pB (l.filter pB).length l:=by
   rw[Fe]
   apply List.map_congr_left
   intro x _
   unfold m4
   show _=if rP f x.2=true then _ else _
   split<;>rfl
  rw[hall]at k
  refine aP (fun n vs h'=>∃ (t:Nat),vs=[I (t:Nat)]∧n+t=(l.filter pB).length∧SS h0 M h' i js (grF pB t l) ds lv dv (.map jk) sz kvs EL ED (E++((jk,true,bz kv)::R))) (l.filter pB).length ⟨0,rfl,by omega,by rw[YV];exact s1⟩ ?_
  rintro n2 vs h2 ⟨t,rfl,hn2,s2⟩
  unfold py
  (repeat refine aJ ?_)
  refine ah (fun ht=>?_) (fun ht=>?_)<;>simp only[za,zb,zc,zd,ze,zf,zg,zh,zi,u8i,zj,zk,zl]at ht
  ·have ht:t<(l.filter pB).length:=ht
   refine (rowF _ _ s2).idx (fun _=>rfl) ht fun p2 t2=>?_
   refine aI t2 ?_
   obtain⟨q,hq,h1q,h2q⟩:=Hb pB l t ht
   rw[← h1q]at h2q ⊢
   refine au (aj ?_)
   refine ay (L':=ED++((i,true,eC lv js (.map jk) dv sz)::(js,true,bz kvs)::(EL++(cx ((grF pB t l).set q ((grF pB t l)[q].1,UE (grF pB t l)[q].2))++(E++((jk,true,bz kv)::R)))))) (cs:=enE (grF pB t l)[q].2) s2.st (SS.subE hq (UE (grF pB t l)[q].2)) rfl rfl rfl (nle rfl) fun h3 s3=>?_
   have s3:=s2.setE hq s3
   refine aH (by omega) ?_
   refine⟨n2-1,by omega,t+1,rfl,by omega,?_⟩
   rw[h2q];exact s3
  ·have ht:t=(l.filter pB).length:=by omega
   rw[ht]at s2
   refine (rowF _ _ s2).len ?_
   refine bU ?_
   rw[show decide ((0:Int)<((l.filter pB).length:Nat))=decide (0<(l.filter pB).length) by simp]
   exact k h2 s2.unL
end
end
end
section
noncomputable section
section
variable [Tabs]
abbrev Pl:=List En×(Str→Option Int)×Int
def mI (f:Str→Option Int):Nat→List En→Pl
 | 0,es=>jU f es
 | n+1,es=>if (jU f es).1.any (rP (jU f es).2.1)=true then mI f n ((jU f es).1.map (m4 (jU f es).2.1)) else jU f es
def unG (e:En):Bool:=decide (e.x.2.kind=2)&&!e.grown
theorem Fd (f:Str→Option Int) (e:En):(m4 f e).x=e.x∧(m4 f e).frag=e.frag∧(m4 f e).place=e.place:=by unfold m4;split<;>exact⟨rfl,rfl,rfl⟩
theorem GR (syms:Str→Option Int):∀ (es:List En) (st:List En×Int),((es.foldl (nC syms) st).1).countP unG=st.1.countP unG+es.countP unG
 | [],st=>by simp
 | e::es,st=>by
   rw[List.foldl_cons,GR syms es,List.countP_cons]
   simp only[nC,List.countP_append,List.countP_cons,List.countP_nil]
   have:unG (uM e st.2)=unG e:=rfl
   rw[this];omega
theorem Jg {f:Str→Option Int}{es:List En}(h:es.any (rP f)=true):(es.map (m4 f)).countP unG<es.countP unG:=by
 rw[List.countP_map]
 refine Dl (fun e he hp=>?_) ?_
 ·simp only[Function.comp]at hp
  unfold m4 at hp
  split at hp
  ·simp[unG,UE]at hp
  ·exact hp
 ·rw[List.any_eq_true]at h
  obtain⟨e,he,hg⟩:=h
  refine⟨e,he,?_,?_⟩
  ·unfold rP at hg;unfold unG
   simp only[Bool.and_eq_true]at hg ⊢
   exact⟨hg.1,hg.2.1⟩
  ·simp only[Function.comp]
   unfold m4;rw[if_pos hg];simp[unG,UE]
theorem ZR {f:Str→Option Int}{es:List En}(h:es.any (rP f)=true):0<es.countP unG:=by
 have:=Jg h;omega
variable {h0 h h':ae}{M:List Nat}{Q:QT}{K:AV→Prop}
variable {i js:Nat}{l:List (Nat×En)}{ds:List Dg}{lv dv kn:AV}{sz:Int}{kvs:KV}{EL ED R:Own}
theorem Qi {f:Str→Option Int}{es:List En}(hl:es.length<100000) (w:∀ e∈es,WfS e.x.2) (hs:∀ e∈es,SzOk f e):∀ e∈(jU f es).1,PlE e∧SzOk f e:=by
 intro e he
 have:=C8 w hs es.length (Nat.le_refl _) e (by rw[List.take_length];exact he)
 obtain⟨⟨e0,h0,h1,h2,h3⟩,h4,h5⟩:=this
 refine⟨⟨by rw[h1];exact w _ h0,h4,by omega⟩,?_⟩
 have:=hs _ h0
 unfold SzOk bM FW at this ⊢
 rw[h1];exact this
theorem qw (f:Str→Option Int) (es:List En):(jU f es).1.length=es.length:=by
 have:=Al f es ([],0)
 simpa [jU,db] using this
theorem Uv (hF:cy) (hL:dN) (hl:l.length<100000) {f:Str→Option Int}(nds:(bN kvs).Nodup) (hfs:∀ k,bu k kvs=f k) (w:∀ x∈l,WfS x.2.x.2) (hs:∀ x∈l,SzOk f x.2) (hds:ds=[])
  (s:SS h0 M h i js l ds lv dv kn sz kvs EL ED R)
  (k:∀ l' jk kv' dv' ED' h',l'.map (·.1)=l.map (·.1)→l'.map (·.2)=(mI f l.length (l.map (·.2))).1→(∀ x∈l',PlE x.2∧SzOk f x.2)→(bN kv').Nodup→(∀ k,bu k kv'=(mI f l.length (l.map (·.2))).2.1 k)→
   SS h0 M h' i js l' (if 4096<(mI f l.length (l.map (·.2))).2.2 then [([],0,8)] else []) lv dv' (.map jk) (mI f l.length (l.map (·.2))).2.2 kvs EL ED' ((jk,true,bz kv')::R)→Q (.tup []) h'):C ce [.ptr i 0] h Q:=by
 subst hds
 generalize hP:mI f l.length (l.map (·.2))=P at k
 refine we _ _ _ ?_
 unfold rt
 refine XE hl nds hfs w hs s fun l1 jk1 kv1 h1 hm1 he1 nd1 hf1 s1=>?_
 have hw1:∀ e∈l.map (·.2),WfS e.x.2:=by
  intro e he;rw[List.mem_map]at he;obtain⟨x,hx,rfl⟩:=he;exact w x hx
 have hs1:∀ e∈l.map (·.2),SzOk f e:=by
  intro e he;rw[List.mem_map]at he;obtain⟨x,hx,rfl⟩:=he;exact hs x hx
 refine aP (fun n vs h'=>∃ (es:List En) (l1:List (Nat×En)) (jk:Nat) (kv:KV),vs=[]∧es.length<100000∧(∀ e∈es,WfS e.x.2)∧(∀ e∈es,SzOk f e)∧l1.map (·.1)=l.map (·.1)∧l1.map (·.2)=(jU f es).1∧(bN kv).Nodup∧(∀ k,bu k kv=(jU f es).2.1 k)∧
  es.countP unG≤n∧mI f n es=P∧SS h0 M h' i js l1 [] lv dv (.map jk) (jU f es).2.2 kvs EL ED ((jk,true,bz kv)::R)) l.length ⟨l.map (·.2),l1,jk1,kv1,rfl,by simpa using hl,hw1,hs1,hm1,he1,nd1,hf1,by have:=List.countP_le_length (p:=unG) (l:=l.map (·.2));simpa using this,hP,s1⟩ ?_
 rintro n vs h2 ⟨es,l2,jk,kv,rfl,hel,hwe,hse,hm2,he2,nd2,hf2,hcnt,hfix,s2⟩
 unfold ol
 have hl2:l2.length=l.length:=by simpa using congrArg List.length hm2
 have hwl:∀ x∈l2,PlE x.2∧SzOk f x.2:=fun x hx=>Qi hel hwe hse x.2 (by rw[← he2];exact List.mem_map.2 ⟨x,hx,rfl⟩)
 have hcl:(jU f es).1.countP unG=es.countP unG:=by
  have:=GR f es ([],0)
  simpa [jU,db] using this
 refine Zc hF hL (by omega) nd2 hf2 (fun x hx=>(hwl x hx).1) s2 fun h3 s3=>?_
 rw[he2]
 cases hany:(jU f es).1.any (rP (jU f es).2.1) with
 | true=>
   refine ah (fun _=>?_) (fun h=>by cases h)
   have hpos:=ZR hany
   obtain⟨m,rfl⟩:∃ m,n=m+1:=⟨n-1,by omega⟩
   rw[mI,if_pos hany]at hfix
   have hmap2:(l2.map fun x=>(x.1,m4 (jU f es).2.1 x.2)).map (·.2)=(jU f es).1.map (m4 (jU f es).2.1):=by
    rw[List.map_map,← he2,List.map_map];rfl
   have hmap1:(l2.map fun x=>(x.1,m4 (jU f es).2.1 x.2)).map (·.1)=l.map (·.1):=by
    rw[List.map_map,← hm2];rfl
   refine XE (by rw[List.length_map];omega) nds hfs (fun x hx=>?_) (fun x hx=>?_) s3 fun l4 jk4 kv4 h4 hm4 he4 nd4 hf4 s4=>?_
   ·rw[List.mem_map]at hx;obtain⟨y,hy,rfl⟩:=hx
    simp only[(Fd _ _).1];exact (hwl y hy).1.wf
   ·rw[List.mem_map]at hx;obtain⟨y,hy,rfl⟩:=hx
    have:=(hwl y hy).2
    unfold SzOk bM FW at this ⊢
    simp only[(Fd _ _).1];exact this
   rw[hmap2]at he4 hf4 s4
   refine⟨m,by omega,(jU f es).1.map (m4 (jU f es).2.1),l4,jk4,kv4,rfl,by rw[List.length_map,qw];exact hel,fun e he=>?_,fun e he=>?_,by rw[hm4,hmap1],he4,nd4,hf4,?_,hfix,s4.unR ((List.sublist_cons_self _ _).cons₂ _)⟩
   ·rw[List.mem_map]at he;obtain⟨y,hy,rfl⟩:=he
    rw[(Fd _ _).1];exact (Qi hel hwe hse y hy).1.wf
   ·rw[List.mem_map]at he;obtain⟨y,hy,rfl⟩:=he
    have:=(Qi hel hwe hse y hy).2
    unfold SzOk bM FW at this ⊢
    rw[(Fd _ _).1];exact this
   ·have:=Jg hany;omega
 | false=>
   refine ah (fun h=>by cases h) (fun _=>?_)
   have hP2:jU f es=P:=by
    rw[← hfix]
    cases n with
    | zero=>rfl
    | succ n=>rw[mI,if_neg (by rw[hany];simp)]
   have hid:(l2.map fun x=>(x.1,m4 (jU f es).2.1 x.2))=l2:=by
    have:∀ x∈l2,(x.1,m4 (jU f es).2.1 x.2)=x:=by
     intro x hx
     have hx2:x.2∈(jU f es).1:=by rw[← he2];exact List.mem_map.2 ⟨x,hx,rfl⟩
     rw[List.any_eq_false]at hany
     have:=hany _ hx2
     unfold m4;rw[if_neg this]
    conv=>rhs;rw[← List.map_id l2]
    exact List.map_congr_left this
   rw[hid]at s3
   rw[hP2]at he2 hf2 s3
   have si:=St.startr s3.src
   (repeat (first|refine au ?_|refine aj ?_|refine bU ?_|refine af ‹_› (.head _) rfl ?_))
   clear si
   refine ah (fun hb=>?_) (fun hb=>?_)<;>simp only[za,zb,zc,zd,ze,zf,zg,zh,zi,u8i,zj,zk,zl]at hb
   ·rw[if_pos hb]at k
    refine Ck (by simp) s3 fun dv' ED' h4 s4=>?_
    exact k l2 jk kv dv' ED' h4 hm2 he2 hwl nd2 hf2 s4
   ·rw[if_neg (by omega)]at k
    exact k l2 jk kv dv ED h3 hm2 he2 hwl nd2 hf2 s3
end
end
end
section
noncomputable section
abbrev Fg:=Str×Str
def frE (x:Fg):List AV:=[T x.1,T x.2]
def aci (f:Str→Option Int) (y:Sy):Str→Option Int:=upd f y.1 y.2
def lp (syms:List Sy):Str→Option Int:=syms.foldl aci fun _=>none
def mkE (n:Str) (x:Sm):En:=⟨n,x,0,false⟩
section
variable [Tabs]
def wm (x:Fg):List En:=(nL x.2).map (mkE x.1)
def yV (x:Fg):List Dg:=(va x.2).map fun k=>(x.1,k,1)
def km (l:List Fg):List En:=l.flatMap wm
def BA (l:List Fg):List Dg:=l.flatMap yV
variable {h0 h h':ae}{M:List Nat}{Q:QT}{K:AV→Prop}{KS:ae→Prop}
variable {i js:Nat}{l:List (Nat×En)}{ds:List Dg}{lv dv kn:AV}{sz:Int}{kvs:KV}{EL ED R:Own}
theorem SS.subK {kvs':KV}:Sub (ED++((i,true,eC lv js kn dv sz)::(js,true,bz kvs)::(EL++(cx l++R)))) (js,true,bz kvs) (ED++((i,true,eC lv js kn dv sz)::(js,true,bz kvs')::(EL++(cx l++R)))) (js,true,bz kvs'):=Sub.pre (.tail .head) _
theorem Zy {e:En}{p:Nat}(hl:l.length<1000000000) (s:SS h0 M h i js l ds lv dv kn sz kvs EL ED ((p,true,.cells (enE e))::R))
  (k:∀ lv' EL' h',SS h0 M h' i js (l++[(p,e)]) ds lv' dv kn sz kvs EL' ED R→KS h'):bc 1 8 lv (.full 1 [.ptr p 0]) h fun t63 h14=>aE (.ptr i 0) fun t64=>ab 0 t64 fun t65=>ak 1 t65 t63 h14 KS:=by
 have hz:cx l++((p,true,AObj.cells (enE e))::R)=cx (l++[(p,e)])++R:=by simp[cx]
 have hx:∀ (lv:AV) (EL:Own),(ED++((i,true,eC lv js kn dv sz)::(js,true,bz kvs)::(EL++(cx (l++[(p,e)])++R))))=(ED++[(i,true,eC lv js kn dv sz),(js,true,bz kvs)])++(EL++(cx (l++[(p,e)])++R)):=fun lv EL=>by simp
 have hy:∀ (lv:AV),(ED++((i,true,eC lv js kn dv sz)::(js,true,bz kvs)::(cx (l++[(p,e)])++R)))=(ED++[(i,true,eC lv js kn dv sz),(js,true,bz kvs)])++(cx (l++[(p,e)])++R):=fun lv=>by simp
 have hs:=s.st
 rw[hz,hx]at hs
 refine s.al.app (hs.perm (List.perm_append_comm_assoc _ _ _)) (xs:=pE (p,e)) (m:=1) (Rd.full rfl) rfl (by omega) fun lv' EL' h1 a1 s1=>?_
 rw[← hy]at s1
 refine au (aj ?_)
 refine yu (L':=EL'++(ED++((i,true,eC lv' js kn dv sz)::(js,true,bz kvs)::(cx (l++[(p,e)])++R)))) a1.v1 s1 (Sub.pre (Sub.pre .head _) _) (nle rfl) fun h2 s2=>?_
 rw[hy]at s2
 refine k lv' EL' h2 ⟨by simpa using a1,s.ad,?_⟩
 rw[hx]
 exact s2.perm (List.perm_append_comm_assoc _ _ _)
theorem vG {α β:Type}(g:α→List β) (l:List α) (q:Nat):((l.take q).flatMap g).length≤(l.flatMap g).length:=by
 conv=>rhs;rw[← List.take_append_drop q l]
 rw[List.flatMap_append,List.length_append];omega
theorem iU {α β:Type}(g:α→List β) {l:List α}{q:Nat}(hq:q<l.length):(l.take (q+1)).flatMap g=(l.take q).flatMap g++g l[q]:=by
 rw[List.take_succ_eq_append_getElem hq,List.flatMap_append,List.flatMap_cons,List.flatMap_nil,List.append_nil]
theorem Zg (hF:cy) (hI:gq) (hA:je) {frags:List Fg}{syms:List Sy}{fv sv:AV}(rf:Row frE 2 h fv frags) (rs:Row syE 2 h sv syms) (hfl:frags.length<1000000) (hsl:syms.length<1000000) (he:(km frags).length<100000) (hd:(BA frags).length<1000000) (ht:∀ x∈frags,x.2.length<1000000000)
  (k:∀ i js l lv dv kvs EL ED h',l.map (·.2)=km frags→(bN kvs).Nodup→(∀ k,bu k kvs=lp syms k)→SS h [] h' i js l (BA frags) lv dv (.lit (.map none)) 0 kvs EL ED []→Q (.ptr i 0) h'):C x4 [fv,sv] h Q:=by
 refine OH _ _ _ _ ?_
 unfold NJ
 refine qB (St.start h) fun js h1 s1=>?_
 refine aD rfl ?_
 refine bR s1 rfl fun i h2 s2=>?_
 have s2:SS h [] h2 i js [] [] (.full 0 []) (.full 0 []) (.lit (.map none)) 0 [] [] [] []:=⟨.none 1,.none 3,s2⟩
 refine rs.len ?_
 refine aP (fun n vs h'=>∃ (q:Nat) (kvs:KV),vs=[I (q:Nat)]∧n+q=syms.length∧(bN kvs).Nodup∧(∀ k,bu k kvs=((syms.take q).foldl aci fun _=>none) k)∧SS h [] h' i js [] [] (.full 0 []) (.full 0 []) (.lit (.map none)) 0 kvs [] [] []) syms.length ⟨0,[],rfl,by omega,by simp[bN],fun k=>rfl,s2⟩ ?_
 rintro n vs h3 ⟨q,kvs,rfl,hn,nd,hf,s3⟩
 unfold BW
 (repeat refine aJ ?_)
 refine ah (fun hq=>?_) (fun hq=>?_)<;>simp only[za,zb,zc,zd,ze,zf,zg,zh,zi,u8i,zj,zk,zl]at hq
 ·have hq:q<syms.length:=hq
  refine (rs.fr s3.st.fr).idx (fun _=>rfl) hq fun p t=>?_
  refine bk t rfl ?_
  refine aQ s3.st fun t7 h4 s4=>?_
  have s4:=s3.front s4
  refine ay (L':=[]++((i,true,eC (.full 0 []) js (.lit (.map none)) (.full 0 []) 0)::(js,true,bz kvs)::([]++(cx []++((t7,true,.cells (syE syms[q]))::[]))))) (cs:=[T [],I 0]) s4.st (SS.subR .head) rfl rfl rfl (nle rfl) fun h5 s5=>?_
  have s5:SS h [] h5 i js [] [] (.full 0 []) (.full 0 []) (.lit (.map none)) 0 kvs [] [] [(t7,true,.cells (syE syms[q]))]:=⟨.none 1,.none 3,s5⟩
  have si:=St.startr s5.src
  refine au (aj (af si (.head _) rfl (aj (af s5.st (SS.memR (.head _)) rfl (aj (af s5.st (SS.memR (.head _)) rfl ?_))))))
  refine tW s5.st SS.subK fun h6 s6=>?_
  refine aH (by omega) ?_
  have s6:SS h [] h6 i js [] [] (.full 0 []) (.full 0 []) (.lit (.map none)) 0 (putA syms[q].1 syms[q].2 kvs) [] [] [(t7,true,.cells (syE syms[q]))]:=⟨.none 1,.none 3,s6⟩
  refine⟨n-1,by omega,q+1,_,rfl,by omega,qo nd,fun k=>?_,s6.unR (List.nil_sublist _)⟩
  rw[List.take_succ_eq_append_getElem hq,List.foldl_append,nS,hf];rfl
 ·have hq:q=syms.length:=by omega
  subst hq
  rw[List.take_length]at hf
  refine (rf.fr s3.st.fr).len ?_
  refine aP (fun n vs h'=>∃ (q:Nat) (l:List (Nat×En)) (lv dv:AV) (EL ED:Own),vs=[I (q:Nat)]∧n+q=frags.length∧l.map (·.2)=(frags.take q).flatMap wm∧SS h [] h' i js l ((frags.take q).flatMap yV) lv dv (.lit (.map none)) 0 kvs EL ED []) frags.length ⟨0,[],.full 0 [],.full 0 [],[],[],rfl,by omega,rfl,s3⟩ ?_
  rintro n vs h4 ⟨q,l,lv,dv,EL,ED,rfl,hn,hel,s4⟩
  unfold BO
  (repeat refine aJ ?_)
  refine ah (fun hq=>?_) (fun hq=>?_)<;>simp only[za,zb,zc,zd,ze,zf,zg,zh,zi,u8i,zj,zk,zl]at hq
  ·have hq:q<frags.length:=hq
   refine (rf.fr s4.st.fr).idx (fun _=>rfl) hq fun p t=>?_
   refine bk t rfl ?_
   have htl:=ht _ (List.getElem_mem hq)
   have hle:=vG wm frags (q+1)
   have hld:=vG yV frags (q+1)
   rw[iU wm hq,List.length_append]at hle
   rw[iU yV hq,List.length_append]at hld
   have hll:l.length=((frags.take q).flatMap wm).length:=by rw[← hel];simp
   have he':(frags.flatMap wm).length<100000:=he
   have hd':(frags.flatMap yV).length<1000000:=hd
   have hle:=Nat.lt_of_le_of_lt hle he'
   have hld:=Nat.lt_of_le_of_lt hld hd'
   have hsE:=iU wm hq
   have hsD:=iU yV hq
   have hfrE:wm frags[q]=(nL frags[q].2).map (mkE frags[q].1):=rfl
   have hfrD:yV frags[q]=(va frags[q].2).map fun k=>(frags[q].1,k,1):=rfl
   rw[hfrE]at hle hsE
   rw[hfrD]at hld hsD
   generalize hfr:frags[q]=fr at htl hle hld hsE hsD ⊢
   generalize hpe:(frags.take q).flatMap wm=pe at hel hle hll hsE
   generalize hpd:(frags.take q).flatMap yV=pd at s4 hld hsD
   refine aQ s4.st fun t9 h5 s5=>?_
   have s5:=s4.front s5
   refine ay (L':=ED++((i,true,eC lv js (.lit (.map none)) dv 0)::(js,true,bz kvs)::(EL++(cx l++((t9,true,.cells (frE fr))::[]))))) (cs:=[T [],T []]) s5.st (SS.subR .head) rfl rfl rfl (nle rfl) fun h6 s6=>?_
   have s6:SS h [] h6 i js l pd lv dv (.lit (.map none)) 0 kvs EL ED [(t9,true,.cells (frE fr))]:=⟨s4.al,s4.ad,s6⟩
   refine aj (af s6.st (SS.memR (.head _)) rfl ?_)
   refine A6 hF hI hA fr.2 htl fun h7 f7=>?_
   have s7:=s6.call f7
   refine aF rfl (aF rfl ?_)
   have RS:∀ h,Row smF 6 h (.snap (nL fr.2).length ((nL fr.2).flatMap smF)) (nL fr.2):=fun h=>Row.snap (enc:=smF) (fun _=>rfl) _
   have RB:∀ h,Row nE 1 h (.snap (va fr.2).length ((va fr.2).flatMap nE)) (va fr.2):=fun h=>Row.snap (enc:=nE) (fun _=>rfl) _
   rw[List.length_map]at hle hld
   generalize nL fr.2=ps at RS hle hsE ⊢
   generalize va fr.2=pb at RB hld hsD ⊢
   refine (RS h7).len ?_
   refine aP (fun n2 vs h'=>∃ (j:Nat) (l:List (Nat×En)) (lv:AV) (EL:Own),vs=[I (j:Nat)]∧n2+j=ps.length∧l.map (·.2)=pe++(ps.take j).map (mkE fr.1)∧SS h [] h' i js l pd lv dv (.lit (.map none)) 0 kvs EL ED [(t9,true,.cells (frE fr))]) ps.length ⟨0,l,lv,EL,rfl,by omega,by simpa using hel,s7⟩ ?_
   rintro n2 vs h8 ⟨j,l8,lv8,EL8,rfl,hn2,hel8,s8⟩
   unfold AY
   have hl8:l8.length≤100000:=by
    have:=congrArg List.length hel8
    simp only[List.length_map,List.length_append,List.length_take]at this
    omega
   (repeat refine aJ ?_)
   refine ah (fun hj=>?_) (fun hj=>?_)<;>simp only[za,zb,zc,zd,ze,zf,zg,zh,zi,u8i,zj,zk,zl]at hj
   ·have hj:j<ps.length:=hj
    refine (RS h8).idx (fun _=>rfl) hj fun p t=>?_
    refine bk t rfl ?_
    refine aQ s8.st fun t13 h9 s9=>?_
    have s9:=s8.front s9
    refine ay (L':=ED++((i,true,eC lv8 js (.lit (.map none)) dv 0)::(js,true,bz kvs)::(EL8++(cx l8++((t13,true,.cells (smF ps[j]))::(t9,true,.cells (frE fr))::[]))))) (cs:=[I 0,T [],I 0,I 0,T [],.full 0 []]) s9.st (SS.subR .head) rfl rfl rfl (nle rfl) fun h10 s10=>?_
    have s10:SS h [] h10 i js l8 pd lv8 dv (.lit (.map none)) 0 kvs EL8 ED [(t13,true,.cells (smF ps[j])),(t9,true,.cells (frE fr))]:=⟨s8.al,s8.ad,s10⟩
    have si:=St.startr s10.src
    refine au (aj (af si (.head _) rfl (aj (af s10.st (SS.memR (.tail _ (.head _))) rfl ?_))))
    refine aK s10.st (SS.memR (.head _)) (nle rfl) ?_
    refine aD rfl ?_
    refine bR s10.st rfl fun p11 h11 s11=>?_
    have s11:SS h [] h11 i js l8 pd lv8 dv (.lit (.map none)) 0 kvs EL8 ED ((p11,true,.cells (enE (mkE fr.1 ps[j])))::[(t13,true,.cells (smF ps[j])),(t9,true,.cells (frE fr))]):=s10.front s11
    have si11:=St.startr s11.src
    refine⟨af si11 (.head _) rfl rfl,aB rfl rfl ?_⟩
    refine Zy (e:=mkE fr.1 ps[j]) (p:=p11) (by omega) s11 fun lv' EL' h12 s12=>?_
    refine aH (by omega) ?_
    refine⟨n2-1,by omega,j+1,l8++[(p11,mkE fr.1 ps[j])],lv',EL',rfl,by omega,?_,s12.unR (List.sublist_cons_self _ _)⟩
    rw[List.map_append,hel8,List.take_succ_eq_append_getElem hj,List.map_append,List.append_assoc];rfl
   ·have hj:j=ps.length:=by omega
    subst hj
    rw[List.take_length]at hel8
    refine (RB h8).len ?_
    refine aP (fun n3 vs h'=>∃ (b:Nat) (dv:AV) (ED:Own),vs=[I (b:Nat)]∧n3+b=pb.length∧SS h [] h' i js l8 (pd++(pb.take b).map fun k=>(fr.1,k,1)) lv8 dv (.lit (.map none)) 0 kvs EL8 ED [(t9,true,.cells (frE fr))]) pb.length ⟨0,dv,ED,rfl,by omega,by simpa using s8⟩ ?_
    rintro n3 vs h9 ⟨b,dv9,ED9,rfl,hn3,s9⟩
    unfold B0
    (repeat refine aJ ?_)
    refine ah (fun hb=>?_) (fun hb=>?_)<;>simp only[za,zb,zc,zd,ze,zf,zg,zh,zi,u8i,zj,zk,zl]at hb
    ·have hb:b<pb.length:=hb
     refine (RB h9).idx (fun _=>rfl) hb fun p t=>?_
     refine aI t ?_
     refine aj (af s9.st (SS.memR (.head _)) rfl ?_)
     refine Ck (by simp;omega) s9 fun dv' ED' h10 s10=>?_
     refine aH (by omega) ?_
     refine⟨n3-1,by omega,b+1,dv',ED',rfl,by omega,?_⟩
     rw[List.take_succ_eq_append_getElem hb,List.map_append,← List.append_assoc];exact s10
    ·have hb:b=pb.length:=by omega
     subst hb
     rw[List.take_length]at s9
     refine aH (by omega) ?_
     refine⟨n-1,by omega,q+1,l8,lv8,dv9,EL8,ED9,rfl,by omega,?_,?_⟩
     ·rw[hsE];exact hel8
     ·rw[hsD];exact s9.unR (List.nil_sublist _)
  ·have hq:q=frags.length:=by omega
   subst hq
   rw[List.take_length]at hel s4
   exact k i js l lv dv kvs EL ED h4 hel nd hf s4
end
end
end
section
noncomputable section
section
variable [Tabs]
def dm (frags:List Fg) (syms:List Sy):Pl:=mI (lp syms) (km frags).length (km frags)
def oH (frags:List Fg) (syms:List Sy):List Dg:=
 if BA frags≠[] then BA frags
 else if Az (lp syms) (km frags)≠[] then Az (lp syms) (km frags)
 else if (km frags).flatMap (szD (lp syms))≠[] then (km frags).flatMap (szD (lp syms))
 else if 4096<(dm frags syms).2.2 then [([],0,8)]
 else (dm frags syms).1.flatMap (chD (dm frags syms).2.1 (dm frags syms).1)
def LB (frags:List Fg) (syms:List Sy):List Int:=(dm frags syms).1.flatMap (o7 (lp syms) (dm frags syms).2.1)
structure Few (frags:List Fg) (syms:List Sy):Prop where
 nf:frags.length<1000000
 ns:syms.length<1000000
 ents:(km frags).length<100000
 bads:(BA frags).length<1000000
 texts:∀ x∈frags,x.2.length<1000000000
 wf:∀ e∈km frags,WfS e.x.2
variable {h0 h h':ae}{M:List Nat}{Q:QT}{K:AV→Prop}{KS:ae→Prop}
theorem Zp (hF:cy) (hI:gq) (hA:je) (hL:dN) {frags:List Fg}{syms:List Sy}{fv sv:AV}(rf:Row frE 2 h fv frags) (rs:Row syE 2 h sv syms) (hw:Few frags syms)
  (kb:oH frags syms≠[]→∀ i js l lv dv kn sz kvs EL ED R h',SS h [] h' i js l (oH frags syms) lv dv kn sz kvs EL ED R→Q (.ptr i 0) h')
  (kg:oH frags syms=[]→∀ i js l lv dv jk kvk kvs EL ED R h',l.map (·.2)=(dm frags syms).1→(∀ x∈l,PlE x.2∧SzOk (lp syms) x.2)→(bN kvs).Nodup→(∀ k,bu k kvs=lp syms k)→(bN kvk).Nodup→(∀ k,bu k kvk=(dm frags syms).2.1 k)→
   SS h [] h' i js l [] lv dv (.map jk) (dm frags syms).2.2 kvs EL ED ((jk,true,bz kvk)::R)→Q (.ptr i 0) h'):C wD [fv,sv] h Q:=by
 refine NY _ _ _ _ ?_
 unfold NI
 refine Zg hF hI hA rf rs hw.nf hw.ns hw.ents hw.bads hw.texts fun i js l lv dv kvs EL ED h1 hel nd hf s1=>?_
 have hlen:l.length=(km frags).length:=by rw[← hel];simp
 have hents:=hw.ents
 have hwl:∀ x∈l,WfS x.2.x.2:=fun x hx=>hw.wf _ (by rw[← hel];exact List.mem_map.2 ⟨x,hx,rfl⟩)
 refine aB rfl rfl ?_
 refine iy ?_
 refine A7 10 ?_
 unfold oH at kb kg
 refine rC ?_
 unfold DK
 refine aJ (ah (fun _=>?_) (fun h=>by cases h))
 refine Bz (h:=h1) (sz:=1) (n:=4) (cs:=[(.fn (.func ck) [.ptr i 0] []),(.fn (.func cm) [.ptr i 0] []),(.fn (.func ce) [.ptr i 0] []),(.fn (.func co) [.ptr i 0] [])]) (Rd.full rfl) (j:=0) (by decide) fun p t=>?_
 refine aI t ?_
 clear t
 have si:=St.startr s1.src
 refine au (aj (af si (.head _) rfl ?_))
 refine rT (s1.ad.rd s1.st) ?_
 clear si
 refine bU ?_
 refine ah (fun h0=>?_) (fun h0=>?_)<;>simp only[za,zb,zc,zd,ze,zf,zg,zh,zi,u8i,zj,zk,zl]at h0
 ·have hne:BA frags≠[]:=by intro h;rw[h]at h0;simp at h0
  unfold jp lG
  rw[if_pos hne]at kb
  exact kb hne _ _ _ _ _ _ _ _ _ _ _ _ s1
 have hn0:BA frags=[]:=by
  cases hd:BA frags with
  | nil=>rfl
  | cons a b=>rw[hd]at h0;simp at h0
 rw[hn0]at s1 kb kg
 rw[if_neg (by simp)]at kb kg
 show C ck [.ptr i 0] h1 _
 refine V0 (by omega) rfl s1 nd hf fun dv2 ED2 h2 s2=>?_
 rw[hel]at s2
 refine aH (by decide) (rM (rC ?_))
 refine aJ (ah (fun _=>?_) (fun h=>by cases h))
 refine Bz (h:=h2) (sz:=1) (n:=4) (cs:=[(.fn (.func ck) [.ptr i 0] []),(.fn (.func cm) [.ptr i 0] []),(.fn (.func ce) [.ptr i 0] []),(.fn (.func co) [.ptr i 0] [])]) (Rd.full rfl) (j:=1) (by decide) fun p t=>?_
 refine aI t ?_
 clear t
 have si:=St.startr s2.src
 refine au (aj (af si (.head _) rfl ?_))
 refine rT (s2.ad.rd s2.st) ?_
 clear si
 refine bU ?_
 refine ah (fun h0=>?_) (fun h0=>?_)<;>simp only[za,zb,zc,zd,ze,zf,zg,zh,zi,u8i,zj,zk,zl]at h0
 ·have hne:Az (lp syms) (km frags)≠[]:=by intro h;rw[h]at h0;simp at h0
  unfold jp lG
  rw[if_pos hne]at kb
  exact kb hne _ _ _ _ _ _ _ _ _ _ _ _ s2
 have hn1:Az (lp syms) (km frags)=[]:=by
  cases hd:Az (lp syms) (km frags) with
  | nil=>rfl
  | cons a b=>rw[hd]at h0;simp at h0
 rw[hn1]at s2 kb kg
 rw[if_neg (by simp)]at kb kg
 show C cm [.ptr i 0] h2 _
 refine Yc (f:=lp syms) (by omega) rfl s2 nd hf hwl fun dv3 ED3 h3 s3=>?_
 rw[hel]at s3
 refine aH (by decide) (rM (rC ?_))
 refine aJ (ah (fun _=>?_) (fun h=>by cases h))
 refine Bz (h:=h3) (sz:=1) (n:=4) (cs:=[(.fn (.func ck) [.ptr i 0] []),(.fn (.func cm) [.ptr i 0] []),(.fn (.func ce) [.ptr i 0] []),(.fn (.func co) [.ptr i 0] [])]) (Rd.full rfl) (j:=2) (by decide) fun p t=>?_
 refine aI t ?_
 clear t
 have si:=St.startr s3.src
 refine au (aj (af si (.head _) rfl ?_))
 refine rT (s3.ad.rd s3.st) ?_
 clear si
 refine bU ?_
 refine ah (fun h0=>?_) (fun h0=>?_)<;>simp only[za,zb,zc,zd,ze,zf,zg,zh,zi,u8i,zj,zk,zl]at h0
 ·have hne:(km frags).flatMap (szD (lp syms))≠[]:=by intro h;rw[h]at h0;simp at h0
  unfold jp lG
  rw[if_pos hne]at kb
  exact kb hne _ _ _ _ _ _ _ _ _ _ _ _ s3
 have hn2:(km frags).flatMap (szD (lp syms))=[]:=by
  cases hd:(km frags).flatMap (szD (lp syms)) with
  | nil=>rfl
  | cons a b=>rw[hd]at h0;simp at h0
 rw[hn2]at s3 kb kg
 rw[if_neg (by simp)]at kb kg
 have hsz:∀ x∈l,SzOk (lp syms) x.2:=fun x hx=>abu (by
  rw[List.flatMap_eq_nil_iff]at hn2
  exact hn2 _ (by rw[← hel];exact List.mem_map.2 ⟨x,hx,rfl⟩))
 show C ce [.ptr i 0] h3 _
 refine Uv hF hL (by omega) nd hf hwl hsz rfl s3 fun l4 jk kv4 dv4 ED4 h4 hm4 he4 hw4 nd4 hf4 s4=>?_
 have hP:mI (lp syms) l.length (l.map (·.2))=dm frags syms:=by rw[hel,hlen];rfl
 rw[hP]at he4 hf4 s4
 have hlen4:l4.length=l.length:=by simpa using congrArg List.length hm4
 refine aH (by decide) (rM (rC ?_))
 refine aJ (ah (fun _=>?_) (fun h=>by cases h))
 refine Bz (h:=h4) (sz:=1) (n:=4) (cs:=[(.fn (.func ck) [.ptr i 0] []),(.fn (.func cm) [.ptr i 0] []),(.fn (.func ce) [.ptr i 0] []),(.fn (.func co) [.ptr i 0] [])]) (Rd.full rfl) (j:=3) (by decide) fun p t=>?_
 refine aI t ?_
 clear t
 have si:=St.startr s4.src
 refine au (aj (af si (.head _) rfl ?_))
 refine rT (s4.ad.rd s4.st) ?_
 clear si
 by_cases hbig:4096<(dm frags syms).2.2
 ·rw[if_pos hbig]at s4 kb ⊢
  refine bU (ah (fun _=>?_) (fun h=>by cases h))
  unfold jp lG
  exact kb (by simp) _ _ _ _ _ _ _ _ _ _ _ _ s4
 rw[if_neg hbig]at s4 kb kg ⊢
 refine bU (ah (fun h=>by cases h) (fun _=>?_))
 show C co [.ptr i 0] h4 _
 refine Yh hF hL (by omega) s4 rfl (.head _) nd4 hf4 (fun x hx=>(hw4 x hx).1) fun dv5 ED5 h5 s5=>?_
 rw[he4]at s5
 refine aH (by decide) (rM (rC ?_))
 refine aJ (ah (fun h=>by cases h) (fun _=>?_))
 unfold jp lG
 by_cases hch:(dm frags syms).1.flatMap (chD (dm frags syms).2.1 (dm frags syms).1)=[]
 ·rw[hch]at s5
  exact kg hch _ _ _ _ _ _ _ _ _ _ _ _ he4 hw4 nd hf nd4 hf4 s5
 ·exact kb hch _ _ _ _ _ _ _ _ _ _ _ _ s5
end
end
end
section
noncomputable section
section
variable [Tabs]
theorem Wt {f:Str→Option Int}{es:List En}{e:En}(h:chD f es e=[]):(bg e.place f e.x.2.args).2=0∧(dK e→e.place.tmod 2=0∧(nc (ct e) (g8 e.place (cT (bp (ct e))) (bg e.place f e.x.2.args).1)).isSome=true):=by
 unfold chD at h
 split at h
 ·cases h
 rename_i hw
 simp only[ne_eq,Classical.not_not]at hw
 unfold Gf at hw
 split at hw
 ·cases hw
 rename_i h1
 split at hw
 ·cases hw
 split at hw
 ·rename_i h3;exact (h3 hw).elim
 rename_i h3
 simp only[ne_eq,Classical.not_not]at h3
 refine⟨h3,fun hc=>?_⟩
 split at hw
 ·cases hw
 rename_i h4
 refine⟨?_,?_⟩
 ·by_cases h:e.place.tmod 2=0
  ·exact h
  ·exact (h1 ⟨hc,h⟩).elim
 ·cases hcc:(nc (ct e) (g8 e.place (cT (bp (ct e))) (bg e.place f e.x.2.args).1)).isSome with
  | true=>rfl
  | false=>exact (h4 ⟨hc,hcc⟩).elim
theorem Je {op:Nat}{vs:List Int}:(IV op vs).isSome=(nc op vs).isSome:=by unfold IV;cases nc op vs<;>rfl
theorem Yd {op:Nat}{vs bs:List Int}(h:IV op vs=some bs):bs.length=mq op:=by
 unfold IV at h
 cases hc:nc op vs with
 | none=>rw[hc]at h;cases h
 | some b=>
   rw[hc]at h
   simp only[Option.map_some,Option.some.injEq]at h
   subst h
   unfold mq
   split<;>simp[WW]
theorem UN {f g:Str→Option Int}{es:List En}{e:En}(w:PlE e) (hs:SzOk g e) (h:chD f es e=[]):((o7 g f e).length:Int)=pz g e:=by
 obtain⟨hz,hc⟩:=Wt h
 have hlen:=rZ hz
 unfold o7
 split
 ·rename_i hcode
  have:=(hc hcode).2
  rw[← Je]at this
  cases hen:IV (ct e) (g8 e.place (cT (bp (ct e))) (bg e.place f e.x.2.args).1) with
  | none=>rw[hen]at this;cases this
  | some bs=>
    rw[Option.getD_some,Yd hen]
    unfold pz ct
    rcases hcode with hk|hk
    ·rw[if_pos hk,if_pos hk]
    ·have hk1:¬ e.x.2.kind=1:=by omega
     have ho:=(w.wf.grow hk).1
     have hsz:∀ n,n<3→mq (rb n)=4∧mq (jK n)=2:=by decide
     simp only[if_neg hk1,if_pos hk]
     cases e.grown
     ·simp only[Bool.false_eq_true,if_false];rw[(hsz _ ho).2];rfl
     ·simp only[if_true];rw[(hsz _ ho).1];rfl
 ·rename_i hcode
  split
  ·rename_i hd
   have hfl:∀ (n:Nat) (vs:List Int),(vs.flatMap (beB n)).length=vs.length*n:=by
    intro n vs
    induction vs with
    | nil=>simp
    | cons a l ih=>rw[List.flatMap_cons,List.length_append,ih,Th,List.length_cons,Nat.add_mul];omega
   rw[hfl,hlen]
   unfold pz
   unfold dK at hcode
   unfold eK at hd
   rw[if_neg (by omega),if_neg (by omega),if_pos hd]
   push_cast;rfl
  ·rename_i hd
   unfold dK at hcode
   unfold eK at hd
   split
   ·rename_i h6
    unfold pz
    rw[if_neg (by omega),if_neg (by omega),if_neg (by omega),if_pos h6];simp
   ·rw[List.length_replicate]
    have:=(wx w.wf hs w.lo).1
    omega
def BR (f:Str→Option Int) (es:List En):Int:=(es.map (pz f)).sum
theorem GM (f:Str→Option Int):∀ (es:List En) (st:List En×Int),st.2=BR f st.1→(es.foldl (nC f) st).2=BR f (es.foldl (nC f) st).1
 | [],_,h=>h
 | e::es,st,h=>by
   rw[List.foldl_cons]
   refine GM f es _ ?_
   simp only[nC,BR,List.map_append,List.sum_append,List.map_cons,List.map_nil,List.sum_cons,List.sum_nil]at h ⊢
   omega
theorem Jb (f:Str→Option Int):∀ (n:Nat) (es:List En),∃ es',mI f n es=jU f es'
 | 0,es=>⟨es,rfl⟩
 | n+1,es=>by
   unfold mI
   split
   ·exact Jb f n _
   ·exact⟨es,rfl⟩
theorem Uf (f:Str→Option Int) (n:Nat) (es:List En):(mI f n es).2.2=BR f (mI f n es).1:=by
 obtain⟨es',h⟩:=Jb f n es
 rw[h]
 exact GM f es' ([],0) rfl
theorem U4 {f:Str→Option Int}{es:List En}(h:∀ e∈es,0≤pz f e) (q:Nat):BR f (es.take q)≤BR f es:=by
 have hpos:∀ l:List En,(∀ e∈l,0≤pz f e)→0≤BR f l:=by
  intro l
  induction l with
  | nil=>intro _;simp[BR]
  | cons a l ih=>
    intro hl
    have:=ih fun e he=>hl e (.tail _ he)
    have:=hl a (.head _)
    simp only[BR,List.map_cons,List.sum_cons]at *;omega
 conv=>rhs;rw[← List.take_append_drop q es]
 have:=hpos (es.drop q) fun e he=>h e (List.mem_of_mem_drop he)
 simp only[BR,List.map_append,List.sum_append]at *;omega
theorem N2 {f g:Str→Option Int}{es0:List En}:∀ (es:List En),(∀ e∈es,PlE e∧SzOk g e∧chD f es0 e=[])→((es.flatMap (o7 g f)).length:Int)=BR g es
 | [],_=>by simp[BR]
 | e::es,h=>by
   have ih:=N2 es fun x hx=>h x (.tail _ hx)
   obtain⟨h1,h2,h3⟩:=h e (.head _)
   have:=UN h1 h2 h3
   simp only[List.flatMap_cons,List.length_append,BR,List.map_cons,List.sum_cons]at *
   omega
variable {h0 h h':ae}{M:List Nat}{Q:QT}{K:AV→Prop}{KS:ae→Prop}
theorem Vz {frags:List Fg}{syms:List Sy}(h:oH frags syms=[]):(dm frags syms).2.2≤4096∧∀ e∈(dm frags syms).1,chD (dm frags syms).2.1 (dm frags syms).1 e=[]:=by
 unfold oH at h
 split at h
 ·rename_i h1;exact (h1 h).elim
 split at h
 ·rename_i h1;exact (h1 h).elim
 split at h
 ·rename_i h1;exact (h1 h).elim
 split at h
 ·cases h
 rename_i h4
 rw[List.flatMap_eq_nil_iff]at h
 exact⟨by omega,h⟩
theorem UV (frags:List Fg) (syms:List Sy) (hw:Few frags syms):(oH frags syms).length<2000000:=by
 have h1:=hw.bads
 have h2:=hw.ents
 have htw:∀ (es:List En) (st:TwS) (b:Nat),TwB st b→TwB (es.foldl twE st) (b+2*es.length):=by
  intro es
  induction es with
  | nil=>intro st b h;simpa using h
  | cons e es ih=>
    intro st b h
    rw[List.foldl_cons,List.length_cons]
    have hn:∀ (nm:List Str) (st:TwS) (b:Nat),TwB st b→TwB (nm.foldl (twN e) st) (b+nm.length):=by
     intro nm
     induction nm with
     | nil=>intro st b h;simpa using h
     | cons n nm ih2=>
       intro st b h
       rw[List.foldl_cons,List.length_cons]
       have:=ih2 _ _ (h.step e n)
       exact⟨by have:=this.1;omega,fun k=>by have:=this.2 k;omega⟩
    have hl:(p7 e).length≤2:=by unfold p7;split<;>simp
    have h3:=hn (p7 e) st b h
    have h4:=ih (twE st e) (b+2) ⟨by have:=h3.1;unfold twE;omega,fun k=>by have:=h3.2 k;unfold twE;omega⟩
    exact⟨by have:=h4.1;omega,fun k=>by have:=h4.2 k;omega⟩
 have h5:=htw (km frags) (tw0 (lp syms)) 0 ⟨by simp[tw0],fun k=>by simp[tw0];cases lp syms k<;>simp⟩
 have h6:=tG (Tm (lp syms)) (km frags)
 have h7:=tG (SN (dm frags syms).2.1 (dm frags syms).1) (dm frags syms).1
 have h8:(dm frags syms).1.length=(km frags).length:=by
  unfold dm
  have:∀ (f:Str→Option Int) (n:Nat) (es:List En),(mI f n es).1.length=es.length:=by
   intro f n
   induction n with
   | zero=>intro es;exact qw f es
   | succ n ih=>
     intro es
     unfold mI
     split
     ·rw[ih,List.length_map,qw]
     ·exact qw f es
  exact this _ _ _
 unfold oH
 split
 ·omega
 split
 ·have:=h5.1;unfold Az;omega
 split
 ·omega
 split
 ·simp
 ·omega
theorem Og (hF:cy) (hI:gq) (hA:je) (hL:dN) {frags:List Fg}{syms:List Sy}{fv sv:AV}(rf:Row frE 2 h fv frags) (rs:Row syE 2 h sv syms) (hw:Few frags syms)
  (kb:oH frags syms≠[]→∀ h',Fr [] h h'→Q (.tup [.full 0 [],.snap (oH frags syms).length ((oH frags syms).flatMap dE)]) h')
  (kg:oH frags syms=[]→∀ h',Fr [] h h'→Q (.tup [.snap (LB frags syms).length ((LB frags syms).flatMap bE),.full 0 []]) h'):C oZ [fv,sv] h Q:=by
 refine EO _ _ _ _ ?_
 unfold Bl
 refine Zp hF hI hA hL rf rs hw (fun hne i js l lv dv kn sz kvs EL ED R h1 s1=>?_) (fun hnil i js l lv dv jk kvk kvs EL ED R h1 hel hwl nds hfs ndk hfk s1=>?_)
 ·have si:=St.startr s1.src
  refine au (aj (af si (.head _) rfl ?_))
  have rd:=s1.ad.rd s1.st
  refine rT rd ?_
  refine bU ?_
  have hlen:0<(oH frags syms).length:=List.length_pos_iff.2 hne
  refine ah (fun _=>?_) (fun h=>by simp at h;exact (hne h).elim)
  refine au (aj (af si (.head _) rfl ?_))
  have:=UV frags syms hw
  refine B6 (by omega) rd fun h2 f2=>?_
  exact kb hne h2 (s1.call f2).st.fr
 ·have si:=St.startr s1.src
  refine au (aj (af si (.head _) rfl ?_))
  refine rT (s1.ad.rd s1.st) ?_
  refine bU ?_
  refine ah (fun h=>by simp at h) (fun _=>?_)
  refine au (aj (af si (.head _) rfl ?_))
  clear si
  refine s1.row.len ?_
  obtain⟨hsz,hch⟩:=Vz hnil
  have hent:∀ e∈(dm frags syms).1,PlE e∧SzOk (lp syms) e∧chD (dm frags syms).2.1 (dm frags syms).1 e=[]:=by
   intro e he
   have he2:=he
   rw[← hel,List.mem_map]at he2
   obtain⟨x,hx,rfl⟩:=he2
   exact⟨(hwl x hx).1,(hwl x hx).2,hch _ he⟩
  have hsum:(dm frags syms).2.2=BR (lp syms) (dm frags syms).1:=Uf _ _ _
  have hlong:∀ e∈(dm frags syms).1,0≤pz (lp syms) e:=fun e he=>(wx (hent e he).1.wf (hent e he).2.1 (hent e he).1.lo).1
  have hll:l.length=(km frags).length:=by
   have h1:=congrArg List.length hel
   have h8:∀ (f:Str→Option Int) (n:Nat) (es:List En),(mI f n es).1.length=es.length:=by
    intro f n
    induction n with
    | zero=>intro es;exact qw f es
    | succ n ih=>
      intro es
      unfold mI
      split
      ·rw[ih,List.length_map,qw]
      ·exact qw f es
   rw[List.length_map]at h1
   rw[h1];exact h8 _ _ _
  have hents:=hw.ents
  have hpre:∀ q,(((l.take q).map (·.2)).flatMap (o7 (lp syms) (dm frags syms).2.1)).length≤4096:=by
   intro q
   rw[List.map_take,hel]
   have h1:=N2 (f:=(dm frags syms).2.1) (g:=lp syms) (es0:=(dm frags syms).1) ((dm frags syms).1.take q) fun e he=>hent e (List.mem_of_mem_take he)
   have h2:=U4 hlong q
   omega
  refine aP (fun n vs h'=>∃ (q:Nat) (v:AV) (E:Own),vs=[v,I (q:Nat)]∧n+q=l.length∧AccE 1 v (((l.take q).map (·.2)).flatMap (o7 (lp syms) (dm frags syms).2.1)).length ((((l.take q).map (·.2)).flatMap (o7 (lp syms) (dm frags syms).2.1)).flatMap bE) E∧SS h [] h' i js l [] lv dv (.map jk) (dm frags syms).2.2 kvs EL ED (E++((jk,true,bz kvk)::R))) l.length ⟨0,.full 0 [],[],rfl,by omega,.none 1,s1⟩ ?_
  rintro n vs h2 ⟨q,v,E,rfl,hn,a,s2⟩
  unfold vI
  (repeat refine aJ ?_)
  refine ah (fun hq=>?_) (fun hq=>?_)<;>simp only[za,zb,zc,zd,ze,zf,zg,zh,zi,u8i,zj,zk,zl]at hq
  ·have hq:q<l.length:=hq
   have hm:=List.getElem_mem hq
   refine s2.row.idx (fun _=>rfl) hq fun p t=>?_
   refine aI t ?_
   have hme:l[q].2∈(dm frags syms).1:=by rw[← hel];exact List.mem_map.2 ⟨_,hm,rfl⟩
   have hsucc:=wM (o7 (lp syms) (dm frags syms).2.1) hq
   have hq1:=hpre (q+1)
   rw[hsucc,List.length_append]at hq1
   have hw0:=Wt (hent _ hme).2.2
   refine YA hF hL (s2.ent _ hm) (hwl _ hm).1 s2.src ⟨kvk,s2.rget (List.mem_append_right _ (.head _)),ndk,hfk⟩ ⟨kvs,s2.syms,nds,hfs⟩ (hwl _ hm).2 (fun hc=>⟨hw0.1,by rw[Je];exact (hw0.2 hc).2⟩) fun u h3 f3 ru=>?_
   have s3:=s2.call f3
   refine a.app s3.backL (m:=(o7 (lp syms) (dm frags syms).2.1 l[q].2).length) (xs:=(o7 (lp syms) (dm frags syms).2.1 l[q].2).flatMap bE) ru (by
    have:∀ l:List Int,(l.flatMap bE).all AV.one=true:=fun l=>by
     induction l with
     | nil=>rfl
     | cons a l ih=>rw[List.flatMap_cons,List.all_append,ih];rfl
    exact this _) (by omega) fun v4 E4 h4 a4 s4=>?_
   refine aH (by omega) ?_
   refine⟨n-1,by omega,q+1,v4,E4,rfl,by omega,?_,SS.frontL s4 s3.unL⟩
   rw[hsucc,List.length_append,List.flatMap_append];exact a4
  ·have hq:q=l.length:=by omega
   subst hq
   have h1:=hpre l.length
   rw[List.take_length]at a h1
   refine ti (by omega) (a.rd s2.backL) fun h3 f3=>?_
   rw[hel]
   exact kg hnil h3 (s2.call f3).st.fr
end
end
end
section
noncomputable section
section
variable [Tabs]
variable {h0 h h':ae}{M:List Nat}{Q:QT}{K:AV→Prop}{KS:ae→Prop}
end
end
end
section
noncomputable section
abbrev XV:Gb:=fun _ _ _ _ _=>none
section
theorem Rr [Tabs]:(kindsL.all fun p=>Mf Pg tb5 XV 100 eo [T p.1] .leaf 0 fun r t _=>KW (.snap p.2.length (p.2.flatMap fun x=>[T x])) r t)=true:=by kernel_rfl
theorem Un [Tabs]:([8,15,19,24].all fun b:Nat=>Mf Pg tb5 XV 100 sJ [.lit (.float .f64 4607182418800017408),I (b:Nat)] .leaf 0 fun r t _=>KW (.lit (.float .f64 (FloatKind.f64.nearest (2^b:Nat)))) r t)=true:=by kernel_rfl
def digs:List UInt8:=[48,49,50,51,52,53,54,55,56,57]
def twoDigs:List Str:=(digs.map fun a=>[a])++digs.flatMap fun a=>digs.map fun b=>[a,b]
theorem Yx [Tabs]:(twoDigs.all fun s=>Mf Pg tb5 XV 100 eu [T s] .leaf 0 fun r t _=>KW (.tup [I (s.foldl (fun n c=>n*10+(c.toNat-48)) 0:Nat),.lit .nilIface]) r t)=true:=by kernel_rfl
theorem F5 {c:UInt8}(h:sV c=true):c∈digs:=by
 unfold sV bt at h
 simp only[Bool.and_eq_true,decide_eq_true_eq]at h
 have:∀ n,48≤n→n≤57→UInt8.ofNat n∈digs:=by
  intro n h1 h2
  have:n=48∨n=49∨n=50∨n=51∨n=52∨n=53∨n=54∨n=55∨n=56∨n=57:=by omega
  rcases this with h|h|h|h|h|h|h|h|h|h<;>subst h<;>decide
 have h3:=this c.toNat h.1 h.2
 rwa [UInt8.ofNat_toNat]at h3
theorem Y1 {s:Str}(h1:1≤s.length) (h2:s.length≤2) (h:s.all sV=true):s∈twoDigs:=by
 match s with
 | []=>simp at h1
 | [a]=>
   simp only[List.all_cons,List.all_nil,Bool.and_true]at h
   exact List.mem_append_left _ (List.mem_map.2 ⟨a,F5 h,rfl⟩)
 | [a,b]=>
   simp only[List.all_cons,List.all_nil,Bool.and_true,Bool.and_eq_true]at h
   exact List.mem_append_right _ (List.mem_flatMap.2 ⟨a,F5 h.1,List.mem_map.2 ⟨b,F5 h.2,rfl⟩⟩)
 | a::b::c::r=>simp at h2
variable [Tabs5]
theorem V8:cy:=fun p hp h Q q=>lH Tabs5.tb tJ (d:=100) (.snap p.2.length (p.2.flatMap fun x=>[T x])) rfl (by
 have:∀ l:List Str,clL (l.flatMap fun x=>[T x])=true:=fun l=>by
  induction l with
  | nil=>rfl
  | cons a l ih=>show (cl (T a)&&clL (l.flatMap fun x=>[T x]))=true;rw[ih];rfl
 exact this _) (List.all_eq_true.1 Rr p hp) q
theorem Z4:dN:=fun b hb h Q q=>lH Tabs5.tb tJ (d:=100) (.lit (.float .f64 (FloatKind.f64.nearest (2^b:Nat)))) rfl rfl (List.all_eq_true.1 Un b hb) q
theorem abF:je:=fun s h1 h2 h3 h Q q=>lH Tabs5.tb tJ (d:=100) _ rfl rfl (List.all_eq_true.1 Yx s (Y1 h1 h2 h3)) q
theorem Y4:gq:=fun s sub h Q hs q=>by
 have hI:=Tb
 refine⟨hI.1,fun G w vs si r=>?_⟩
 obtain⟨x,y,hx,ha,hb⟩:=r.two
 simp only[Rep]at ha hb
 obtain⟨rfl,_⟩:=ha
 obtain⟨rfl,_⟩:=hb
 obtain⟨m,hm⟩:=Tabs5.m0 _ si.tab
 subst hx
 refine (hI.2 ⟨⟨s⟩⟩ ⟨⟨sub⟩⟩ m w hs (si.frz _ _ _ hm)).mono fun e w' ⟨he,hw⟩=>?_
 subst hw
 exact⟨I (Lib.index s sub),_,h,G,he,by simp[Rep,Value.oneCell'],q,si,Evo.refl _ _ _⟩
end
end
end
section
noncomputable section
class Ky (κ:Type) where
 dec:DecidableEq κ
 lt:κ→κ→Prop
 dlt:DecidableRel lt
 irr:∀ a,¬ lt a a
 trans:∀ {a b c},lt a b→lt b c→lt a c
 tri:∀ {a b},¬ lt a b→a≠b→lt b a
 val:κ→Value
 kd:TypeDesc
 kok:∀ k,kOk kd (val k)=true
 keq:∀ a b,AL.keq (val a) (val b)=@decide (a=b) (dec a b)
 one:∀ k,(val k).oneCell'=true
instance (κ:Type) [Ky κ]:DecidableEq κ:=Ky.dec
instance (κ:Type) [Ky κ]:DecidableRel (Ky.lt (κ:=κ)):=Ky.dlt
section
variable {κ α:Type}[Ky κ]
abbrev KM (κ α:Type):=List (κ×α)
abbrev KL (α:Type):=KM (List UInt8) α
def ng (k:κ):KM κ α→Option α
 | []=>none
 | (a,v)::r=>if k=a then some v else ng k r
def yG (k:κ) (v:α):KM κ α→KM κ α
 | []=>[(k,v)]
 | (a,w)::r=>if k=a then (k,v)::r else if Ky.lt k a then (k,v)::(a,w)::r else (a,w)::yG k v r
def SoK (l:KM κ α):Prop:=l.Pairwise fun a b=>Ky.lt a.1 b.1
theorem Xr {a b:κ}(h:Ky.lt a b):a≠b:=fun e=>by subst e;exact Ky.irr _ h
theorem abJ {a b:κ}(h1:¬ Ky.lt a b) (h2:a≠b):Ky.lt b a:=Ky.tri h1 h2
theorem SoK.nd {l:KM κ α}(s:SoK l):(l.map (·.1)).Nodup:=by
 rw[List.nodup_iff_pairwise_ne,List.pairwise_map]
 exact s.imp fun h=>Xr h
theorem BZ {k:κ}{v:α}:∀ {l:KM κ α},SoK l→∀ x,x∈yG k v l↔x=(k,v)∨(x∈l∧x.1≠k)
 | [],_,x=>by simp[yG]
 | (a,w)::r,s,x=>by
   obtain⟨s1,s2⟩:=List.pairwise_cons.1 s
   unfold yG
   by_cases h:k=a
   ·subst h
    rw[if_pos rfl]
    simp only[List.mem_cons]
    constructor
    ·rintro (h|h)
     ·exact .inl h
     ·exact .inr ⟨.inr h,fun e=>Xr (s1 x h) e.symm⟩
    ·rintro (h|⟨h|h,h2⟩)
     ·exact .inl h
     ·subst h;exact (h2 rfl).elim
     ·exact .inr h
   ·rw[if_neg h]
    split
    ·rename_i h1
     simp only[List.mem_cons]
     constructor
     ·rintro (h2|h2|h2)
      ·exact .inl h2
      ·exact .inr ⟨.inl h2,by subst h2;exact Ne.symm h⟩
      ·exact .inr ⟨.inr h2,fun e=>Xr (Ky.trans h1 (s1 x h2)) e.symm⟩
     ·rintro (h2|⟨h2,_⟩)
      ·exact .inl h2
      ·exact .inr h2
    ·simp only[List.mem_cons,BZ s2 x]
     constructor
     ·rintro (h2|h2|⟨h2,h3⟩)
      ·exact .inr ⟨.inl h2,by subst h2;exact Ne.symm h⟩
      ·exact .inl h2
      ·exact .inr ⟨.inr h2,h3⟩
     ·rintro (h2|⟨h2|h2,h3⟩)
      ·exact .inr (.inl h2)
      ·exact .inl h2
      ·exact .inr (.inr ⟨h2,h3⟩)
theorem KB {k:κ}{v:α}:∀ {l:KM κ α},SoK l→SoK (yG k v l)
 | [],_=>by simp[yG,SoK]
 | (a,w)::r,s=>by
   obtain⟨s1,s2⟩:=List.pairwise_cons.1 s
   unfold yG
   by_cases h:k=a
   ·subst h
    rw[if_pos rfl]
    exact List.pairwise_cons.2 ⟨s1,s2⟩
   ·rw[if_neg h]
    split
    ·rename_i h1
     refine List.pairwise_cons.2 ⟨fun x hx=>?_,s⟩
     rcases List.mem_cons.1 hx with rfl|hx
     ·exact h1
     ·exact Ky.trans h1 (s1 x hx)
    ·rename_i h1
     refine List.pairwise_cons.2 ⟨fun x hx=>?_,KB s2⟩
     rcases (BZ s2 x).1 hx with rfl|⟨h2,_⟩
     ·exact abJ h1 h
     ·exact s1 x h2
theorem lookK_none {k:κ}:∀ {l:KM κ α},ng k l=none↔∀ x∈l,x.1≠k
 | []=>by simp[ng]
 | (a,w)::r=>by
   unfold ng
   split
   ·rename_i h;subst h;simp
   ·rename_i h
    rw[lookK_none (l:=r)]
    simp only[List.mem_cons,forall_eq_or_imp]
    exact⟨fun hh=>⟨Ne.symm h,hh⟩,fun hh=>hh.2⟩
theorem JM {k:κ}{v:α}:∀ {l:KM κ α},(l.map (·.1)).Nodup→(ng k l=some v↔(k,v)∈l)
 | [],_=>by simp[ng]
 | (a,w)::r,nd=>by
   simp only[List.map_cons,List.nodup_cons]at nd
   unfold ng
   by_cases h:k=a
   ·subst h
    rw[if_pos rfl]
    simp only[Option.some.injEq,List.mem_cons,Prod.mk.injEq,true_and]
    constructor
    ·intro h;exact .inl h.symm
    ·rintro (h|h)
     ·exact h.symm
     ·exact (nd.1 (List.mem_map.2 ⟨_,h,rfl⟩)).elim
   ·rw[if_neg h,JM (l:=r) nd.2];simp[h]
theorem Nk {a b:KM κ α}(na:(a.map (·.1)).Nodup) (nb:(b.map (·.1)).Nodup) (e:∀ x,x∈a↔x∈b):a.Perm b:=
 (List.perm_ext_iff_of_nodup (List.Pairwise.of_map _ (fun _ _ h e=>h (by rw[e])) na) (List.Pairwise.of_map _ (fun _ _ h e=>h (by rw[e])) nb)).2 e
end
instance kyS:Ky (List UInt8) where
 dec:=inferInstance
 lt:=(·<·)
 dlt:=inferInstance
 irr _:=List.lt_irrefl _
 trans:=List.lt_trans
 tri h1 h2:=Std.lt_of_le_of_ne (List.not_lt.1 h1) (Ne.symm h2)
 val k:=.string ⟨⟨k⟩⟩
 kd:=.string
 kok _:=rfl
 keq x y:=by
  show ((⟨x⟩:Array UInt8)==⟨y⟩)=decide (x=y)
  rw[Bool.eq_iff_iff,decide_eq_true_eq];simp
 one _:=rfl
instance kyI:Ky Int where
 dec:=inferInstance
 lt:=(·<·)
 dlt:=inferInstance
 irr _:=Int.lt_irrefl _
 trans:=Int.lt_trans
 tri h1 h2:=by omega
 val k:=.int .i64 k
 kd:=.int .i64
 kok _:=rfl
 keq x y:=by
  show (x==y)=decide (x=y)
  rw[Bool.eq_iff_iff,decide_eq_true_eq];simp
 one _:=rfl
def mE {κ α:Type}[Ky κ] (enc:α→AV) (es:List (κ×Nat×α)):dY:=es.map fun e=>(Ky.val e.1,e.2.1,enc e.2.2)
structure MapR {κ α:Type}[Ky κ] (enc:α→AV) (es:List (κ×Nat×α)) (n:Nat) (l:KM κ α):Prop where
 up:(es.map (·.2.1)).Pairwise (·<·)
 lt:∀ e∈es,e.2.1<n
 nd:(es.map (·.1)).Nodup
 eq:∀ x,x∈es.map (fun e=>(e.1,e.2.2))↔x∈l
 so:SoK l
def MapS {κ α:Type}[Ky κ] (enc:α→AV) (l:KM κ α) (o:AObj):Prop:=∃ (es:List (κ×Nat×α)) (n:Nat),o=.amap (mE enc es) n∧MapR enc es n l
theorem MapS.nil {κ α:Type}[Ky κ] (enc:α→AV):MapS enc ([]:KM κ α) (.amap [] 0):=⟨[],0,rfl,by simp,by simp,by simp,by simp,by simp[SoK]⟩
section
variable {κ α:Type}[Ky κ] {enc:α→AV}{es:List (κ×Nat×α)}{n:Nat}{l:KM κ α}
theorem MapR.kv (m:MapR enc es n l):((es.map (fun e=>(e.1,e.2.2))).map (·.1)).Nodup:=by rw[List.map_map];exact m.nd
theorem MapR.perm (m:MapR enc es n l):(es.map (fun e=>(e.1,e.2.2))).Perm l:=Nk m.kv m.so.nd m.eq
theorem MapR.len (m:MapR enc es n l):es.length=l.length:=by have:=m.perm.length_eq;simpa using this
theorem VW (es:List (κ×Nat×α)):(mE enc es).all (fun e=>kOk (Ky.kd κ) e.1)=true:=by simp[mE,Ky.kok]
variable [Tabs]
theorem OQ (k:κ):∀ (i:Nat) (es:List (κ×Nat×α)),(lN (Ky.val k) (mE enc es) i=none∧∀ e∈es,e.1≠k)∨∃ j,∃ hj:j<es.length,lN (Ky.val k) (mE enc es) i=some (i+j,es[j].2.1,enc es[j].2.2)∧es[j].1=k
 | i,[]=>.inl ⟨rfl,by simp⟩
 | i,(a,b,v)::r=>by
   unfold mE
   rw[List.map_cons,lN,Ky.keq]
   by_cases h:k=a
   ·subst h
    exact .inr ⟨0,by simp,by simp,rfl⟩
   ·rw[if_neg (by simpa using h)]
    rcases OQ k (i+1) r with ⟨h1,h2⟩|⟨j,hj,h1,h2⟩
    ·exact .inl ⟨h1,by simpa using ⟨Ne.symm h,fun x y z=>h2 (x,y,z)⟩⟩
    ·exact .inr ⟨j+1,by simpa using hj,by unfold mE at h1;rw[h1];simp;omega,by simpa using h2⟩
theorem MapR.find (m:MapR enc es n l) (k:κ):(lN (Ky.val k) (mE enc es) 0=none∧ng k l=none∧∀ e∈es,e.1≠k)∨∃ j,∃ hj:j<es.length,lN (Ky.val k) (mE enc es) 0=some (j,es[j].2.1,enc es[j].2.2)∧es[j].1=k∧ng k l=some es[j].2.2:=by
 rcases OQ (enc:=enc) k 0 es with ⟨h1,h2⟩|⟨j,hj,h1,h2⟩
 ·refine .inl ⟨h1,lookK_none.2 fun x hx=>?_,h2⟩
  obtain⟨e,he,rfl⟩:=List.mem_map.1 ((m.eq x).2 hx)
  exact h2 e he
 ·refine .inr ⟨j,hj,by simpa using h1,h2,?_⟩
  rw[JM m.so.nd,← m.eq]
  exact List.mem_map.2 ⟨es[j],List.getElem_mem _,by rw[h2]⟩
theorem MapR.app (m:MapR enc es n l) {k:κ}{v:α}(hn:∀ e∈es,e.1≠k):MapR enc (es++[(k,n,v)]) (n+1) (yG k v l) where
 up:=by
  rw[List.map_append,List.pairwise_append]
  refine⟨m.up,by simp,fun a ha b hb=>?_⟩
  obtain⟨e,he,rfl⟩:=List.mem_map.1 ha
  simp at hb;subst hb;exact m.lt e he
 lt e he:=by
  rcases List.mem_append.1 he with h|h
  ·have:=m.lt e h;omega
  ·simp at h;subst h;simp
 nd:=by
  rw[List.map_append,List.nodup_append]
  refine⟨m.nd,by simp,fun a ha b hb e=>?_⟩
  obtain⟨x,hx,rfl⟩:=List.mem_map.1 ha
  simp at hb;subst hb;exact hn x hx e
 eq x:=by
  rw[List.map_append,List.mem_append,m.eq,BZ m.so]
  simp only[List.map_cons,List.map_nil,List.mem_singleton]
  constructor
  ·rintro (h|h)
   ·obtain⟨e,he,rfl⟩:=List.mem_map.1 ((m.eq x).2 h)
    exact .inr ⟨h,hn e he⟩
   ·exact .inl h
  ·rintro (h|⟨h,_⟩)
   ·exact .inr h
   ·exact .inl h
 so:=KB m.so
theorem YL {β:Type}{l:List β}(nd:l.Nodup) {i j:Nat}(hi:i<l.length) (hj:j<l.length) (e:l[i]=l[j]):i=j:=by
 rw[List.nodup_iff_pairwise_ne,List.pairwise_iff_getElem]at nd
 rcases Nat.lt_trichotomy i j with h|h|h
 ·exact (nd i j hi hj h e).elim
 ·exact h
 ·exact (nd j i hj hi h e.symm).elim
theorem T7 {β:Type}{l:List β}{i:Nat}(hi:i<l.length) (nd:l.Nodup) (b x:β):x∈l.set i b↔x=b∨(x∈l∧x≠l[i]):=by
 constructor
 ·intro h
  obtain⟨j,hj,rfl⟩:=List.getElem_of_mem h
  rw[List.getElem_set]
  split
  ·exact .inl rfl
  ·rename_i hne
   rw[List.length_set]at hj
   exact .inr ⟨List.getElem_mem _,fun e=>hne (YL nd hj hi e).symm⟩
 ·rintro (rfl|⟨h,hne⟩)
  ·exact List.mem_iff_getElem.2 ⟨i,by simpa using hi,by simp⟩
  ·obtain⟨j,hj,rfl⟩:=List.getElem_of_mem h
   refine List.mem_iff_getElem.2 ⟨j,by simpa using hj,?_⟩
   rw[List.getElem_set,if_neg]
   intro e;subst e;exact hne rfl
theorem MapR.set (m:MapR enc es n l) {k:κ}{v:α}{j:Nat}(hj:j<es.length) (hk:es[j].1=k):MapR enc (es.set j (k,es[j].2.1,v)) n (yG k v l):=by
 have e1:(es.set j (k,es[j].2.1,v)).map (·.2.1)=es.map (·.2.1):=by rw[List.map_set];refine List.ext_getElem (by simp) fun i h1 h2=>?_;rw[List.getElem_set];split<;>simp_all
 have e2:(es.set j (k,es[j].2.1,v)).map (·.1)=es.map (·.1):=by rw[List.map_set];refine List.ext_getElem (by simp) fun i h1 h2=>?_;rw[List.getElem_set];split<;>simp_all
 refine⟨by rw[e1];exact m.up,fun e he=>?_,by rw[e2];exact m.nd,fun x=>?_,KB m.so⟩
 ·have:e.2.1∈(es.set j (k,es[j].2.1,v)).map (·.2.1):=List.mem_map_of_mem he
  rw[e1]at this
  obtain⟨x,hx,he⟩:=List.mem_map.1 this
  rw[← he];exact m.lt x hx
 ·rw[List.map_set,BZ m.so,← m.eq]
  have nd:(es.map (fun e=>(e.1,e.2.2))).Nodup:=List.Pairwise.of_map _ (fun _ _ h e=>h (by rw[e])) m.kv
  rw[T7 (by simpa using hj) nd]
  refine or_congr Iff.rfl (and_congr_right fun hx=>not_congr ?_)
  rw[List.getElem_map]
  constructor
  ·intro h;rw[h];exact hk
  ·intro h
   obtain⟨q,hq,rfl⟩:=List.getElem_of_mem hx
   rw[List.length_map]at hq
   simp only[List.getElem_map]at h ⊢
   have:=YL m.nd (i:=q) (j:=j) (by simpa using hq) (by simpa using hj) (by simp[h,hk])
   subst this;rfl
variable {h0 h:ae}{M:List Nat}{L L':Own}{K:AV→Prop}{KH:QT}{KL':ae→Prop}
theorem TB {o:AObj}{j:Nat}{k:κ}{z:AV}(e:h[j]?=some o) (m:MapS enc l o) (q:K (.tup [((ng k l).map enc).getD z,B (ng k l).isSome])):fW (Ky.kd κ) true z (.map j) (.lit (Ky.val k)) h K:=⟨by
 obtain⟨es,n,rfl,r⟩:=m
 simp only[i5,e]
 rw[if_pos (by rw[VW,Ky.kok];rfl)]
 rcases r.find k with ⟨h1,h2,_⟩|⟨j,hj,h1,h2,h3⟩
 ·rw[h1];rw[h2]at q;exact q
 ·rw[h1];rw[h3]at q;exact q⟩
theorem MapS.put {o:AObj}(m:MapS enc l o) (k:κ) (v:α):∃ (es:List (κ×Nat×α)) (n:Nat),o=.amap (mE enc es) n∧MapS enc (yG k v l) (Of (Ky.val k) (enc v) n (mE enc es)):=by
 obtain⟨es,n,rfl,r⟩:=m
 refine⟨es,n,rfl,?_⟩
 unfold Of
 rcases r.find k with ⟨h1,h2,h3⟩|⟨j,hj,h1,h2,h3⟩
 ·rw[h1];exact⟨_,_,by simp[mE],r.app h3⟩
 ·rw[h1];exact⟨_,_,by simp[mE,List.map_set],r.set hj h2⟩
theorem XU {o:AObj}{j:Nat}{k:κ}{v:α}(s:St h0 M h L) (e:(j,true,o)∈L) (m:MapS enc l o) (q:∀ o',MapS enc (yG k v l) o'→(∀ {L'},Sub L (j,true,o) L' (j,true,o')→St h0 M (h.set j o') L')→KL' (h.set j o')):c5 (Ky.kd κ) (.map j) (.lit (Ky.val k)) (enc v) h KL':=⟨by
 obtain⟨es,n,rfl,m'⟩:=m.put k v
 simp only[fZ,s.get e]
 rw[if_pos (by rw[VW,Ky.kok];rfl)]
 exact q _ m' fun u=>s.turn u⟩
end
section
variable [Tabs]
variable {α:Type}{enc:α→AV}{h0 h:ae}{M:List Nat}{L L':Own}{K:AV→Prop}{KS':ae→Prop}
theorem NS {l:KL α}{o:AObj}{j:Nat}{k:Str}{z:AV}(e:h[j]?=some o) (m:MapS enc l o) (q:K (.tup [((ng k l).map enc).getD z,B (ng k l).isSome])):fW .string true z (.map j) (T k) h K:=TB (κ:=List UInt8) e m q
theorem ZN {l:KL α}{o:AObj}{j:Nat}{k:Str}{v:α}(s:St h0 M h L) (e:(j,true,o)∈L) (m:MapS enc l o) (q:∀ o',MapS enc (yG k v l) o'→(∀ {L'},Sub L (j,true,o) L' (j,true,o')→St h0 M (h.set j o') L')→KS' (h.set j o')):c5 .string (.map j) (T k) (enc v) h KS':=XU (κ:=List UInt8) s e m q
end
end
end
section
noncomputable section
open Go.RowKit Go.Maps Go.Sort Go.Shelf Go.WideElems Go.WideShapes
open Go.Proofs (encStr)
variable [Tabs]
section
variable {P:Program}
end
end
end
section
noncomputable section
structure Rq where
 kind:Int
 name:Str
 text:Str
 value:Int
section
variable [Tabs]
variable {h0 h:ae}{M:List Nat}{L R:Own}{K:AV→Prop}{Q:QT}
end
end
end
section
noncomputable section
section
variable [Tabs]
variable {h0 h:ae}{M:List Nat}{L R:Own}{K:AV→Prop}{Q:QT}
def N7 (i:Nat) (n:Nat):Bool:=(decide (97≤n∧n≤122)||decide (n=95))||(decide (0<i)&&bt n)
def dgB (i:Nat) (n:Nat) (d:Bool):Bool:=if 0<i∧bt n=false then false else d
theorem Wn {x:AV}{i n:Nat}{d e:Bool}(hi:i≤12) (he:e=bt n) {nx:NT}(k:nx [x,B (dgB i n d),I ((i+1:Nat):Int)] h):jR [x,B d,I (i:Nat)] (B e) h nx:=by
 unfold jR
 unfold dgB at k
 subst he
 (repeat refine bU ?_)
 refine ah (fun h1=>?_) (fun h1=>?_)<;>simp only[za,zb,zc,zd,ze,zf,zg,zh,zi,u8i,zj,zk,zl]at h1
 ·(repeat refine bP ?_)
  unfold uN
  cases hp:bt n
  ·rw[if_pos ⟨by omega,hp⟩]at k
   unfold im pS
   exact aH (by omega) k
  ·rw[if_neg (by simp[hp])]at k
   unfold im pS
   exact aH (by omega) k
 ·rw[if_neg (by omega)]at k
  unfold im pS
  exact aH (by omega) k
theorem ab7 {x:AV}{i n:Nat}{c:UInt8}{d e a:Bool}(hn:n=c.toNat) (hi:i≤12) (he:e=bt n) (ha:a=!decide (97≤n∧n≤122)) {nx:NT}
  (k:if N7 i n then nx [x,B (dgB i n d),I ((i+1:Nat):Int)] h else Q (B false) h):mr (B a) (.lit (.int .u8 n)) [x,B d,I (i:Nat)] Q h (B e) nx:=by
 unfold mr
 subst ha
 unfold N7 at k
 by_cases h1:97≤n∧n≤122
 ·rw[if_pos (by simp[h1])]at k
  rw[decide_eq_true h1]
  exact Wn hi he k
 ·rw[decide_eq_false h1]
  (repeat refine bT ?_)
  refine ah (fun h2=>?_) (fun h2=>?_)<;>simp only[za,zb,zc,zd,ze,zf,zg,zh,zi,u8i,zj,zk,zl]at h2
  ·(repeat refine aA ?_)
   refine ah (fun h3=>?_) (fun h3=>?_)<;>simp only[za,zb,zc,zd,ze,zf,zg,zh,zi,u8i,zj,zk,zl]at h3
   ·skip
    rw[if_neg (by simp[h1];omega)]at k
    exact k
   ·(repeat refine bP ?_)
    subst he
    cases hp:bt n
    ·rw[if_neg (by simp[h1,hp];omega)]at k
     exact k
    ·rw[if_pos (by simp[hp];omega)]at k
     have:=Wn (x:=x) (d:=d) hi hp.symm k
     exact this
  ·rw[if_pos (by simp;omega)]at k
   exact Wn hi he k
theorem ab1 {x:AV}{s:Str}{i:Nat}{d:Bool}(hi:i<s.length) (hl:s.length≤12) {nx:NT}
  (k:if N7 i s[i].toNat then nx [x,B (dgB i s[i].toNat d),I ((i+1:Nat):Int)] h else Q (B false) h):ix (T s) Q [x,B d,I (i:Nat)] h nx:=by
 unfold ix
 (repeat (first|refine be ?_|refine aJ ?_))
 refine ah (fun h1=>?_) (fun h1=>?_)<;>simp only[za,zb,zc,zd,ze,zf,zg,zh,zi,u8i,zj,zk,zl]at h1
 ·refine bO hi ?_
  have hn:∀ {e a:Bool},e=bt s[i].toNat→a=!decide (97≤s[i].toNat∧s[i].toNat≤122)→mr (B a) (U8 s[i]) [x,B d,I (i:Nat)] Q h (B e) nx:=fun he ha=>ab7 rfl (by omega) he ha k
  have q1:∀ p q:Bool,(p=true↔q=true)→p=q:=fun p q=>Bool.eq_iff_iff.2
  refine bL ?_
  refine ah (fun h2=>?_) (fun h2=>?_)<;>simp only[za,zb,zc,zd,ze,zf,zg,zh,zi,u8i,zj,zk,zl]at h2
  ·refine eT (bL ?_)
   refine ah (fun h3=>?_) (fun h3=>?_)<;>simp only[za,zb,zc,zd,ze,zf,zg,zh,zi,u8i,zj,zk,zl]at h3
   ·refine eT (bP ?_)
    exact hn (q1 _ _ (by simp[bt];omega)) (q1 _ _ (by simp;omega))
   ·refine bP ?_
    exact hn (q1 _ _ (by simp[bt];omega)) (q1 _ _ (by simp;omega))
  ·refine bL ?_
   refine ah (fun h3=>?_) (fun h3=>?_)<;>simp only[za,zb,zc,zd,ze,zf,zg,zh,zi,u8i,zj,zk,zl]at h3
   ·refine eT (bP ?_)
    exact hn (e:=false) (q1 _ _ (by simp[bt];omega)) (q1 _ _ (by simp;omega))
   ·refine bP ?_
    exact hn (e:=false) (q1 _ _ (by simp[bt];omega)) (q1 _ _ (by simp;omega))
 ·omega
theorem aa0 {x:AV}{s:Str}{d:Bool}{nx:NT}(k:Q (B (!d)) h):ix (T s) Q [x,B d,I (s.length:Nat)] h nx:=by
 unfold ix
 (repeat (first|refine be ?_|refine aJ ?_))
 refine ah (fun h1=>?_) (fun h1=>?_)<;>simp only[za,zb,zc,zd,ze,zf,zg,zh,zi,u8i,zj,zk,zl]at h1
 ·omega
 ·(repeat refine bP ?_)
  exact k
def r3F:Str→Nat→Bool→Bool
 | [],_,d=>!d
 | c::t,i,d=>if N7 i c.toNat then r3F t (i+1) (dgB i c.toNat d) else false
theorem Xk:∀ (t:Str) (i:Nat) (d:Bool),0<i→r3F t i d=(t.all (fun c=>dl c.toNat)&&!(d&&t.all fun c=>bt c.toNat))
 | [],i,d,_=>by simp[r3F]
 | c::t,i,d,h=>by
   unfold r3F
   have e:N7 i c.toNat=dl c.toNat:=by
    unfold N7 dl wu bt
    rw[Bool.eq_iff_iff];simp[h];try omega
   rw[e,Xk t (i+1) _ (by omega)]
   unfold dgB
   simp only[List.all_cons]
   cases dl c.toNat<;>cases hp:bt c.toNat<;>simp[h,hp]
theorem WC (c:UInt8) (t:Str) (hl:(c::t).length≤12):r3F (c::t) 0 (decide (c=114)&&decide (t.length > 0))=jv (c::t):=by
 unfold r3F jv
 rw[Xk t 1 _ (by omega),decide_eq_true hl]
 have e:N7 0 c.toNat=(!bt c.toNat&&dl c.toNat):=by
  unfold N7 dl wu bt
  rw[Bool.eq_iff_iff];simp;try omega
 have e2:dgB 0 c.toNat (decide (c=114)&&decide (t.length > 0))=(decide (c=114)&&decide (t.length > 0)):=by unfold dgB;simp
 rw[e,e2]
 simp only[List.all_cons]
 cases t with
 | nil=>cases bt c.toNat<;>cases dl c.toNat<;>simp
 | cons b t=>by_cases h:c=114<;>cases bt c.toNat<;>cases dl c.toNat<;>simp[h]
theorem Nt (s:Str) (hs:s.length<4611686018427387904) (k:Q (B (jv s)) h):C lU [T s] h Q:=by
 refine Mg _ _ _ ?_
 unfold I6
 (repeat (first|refine be ?_|refine aJ ?_))
 refine ah (fun h1=>?_) (fun h1=>?_)<;>simp only[za,zb,zc,zd,ze,zf,zg,zh,zi,u8i,zj,zk,zl]at h1
 ·match s,h1 with
  | [],_=>exact k
  | c::t,h1=>simp at h1;omega
 ·(repeat (first|refine be ?_|refine bU ?_))
  refine ah (fun h2=>?_) (fun h2=>?_)<;>simp only[za,zb,zc,zd,ze,zf,zg,zh,zi,u8i,zj,zk,zl]at h2
  ·match s,h1 with
   | c::t,_=>
     have:jv (c::t)=false:=by unfold jv;rw[decide_eq_false (by omega)];rfl
     rw[this]at k;exact k
  ·match s,h1 with
   | c::t,_=>
     have hl:(c::t).length≤12:=by omega
     have go:∀ d:Bool,d=(decide (c=114)&&decide (t.length > 0))→cb [B false,B d,I 0] h fun vs h nx=>ix (T (c::t)) Q vs h nx:=fun d hd=>by
      refine aP (fun n vs h'=>∃ (i:Nat) (d:Bool),vs=[B false,B d,I (i:Nat)]∧h'=h∧n+i=(c::t).length∧r3F ((c::t).drop i) i d=jv (c::t)) (c::t).length ⟨0,d,rfl,rfl,rfl,by rw[hd];exact WC c t hl⟩ ?_
      rintro n vs h' ⟨i,d,rfl,rfl,hn,hr⟩
      by_cases hi:i<(c::t).length
      ·refine ab1 hi hl ?_
       rw[List.drop_eq_getElem_cons hi]at hr
       unfold r3F at hr
       split
       ·rename_i hf
        rw[if_pos hf]at hr
        exact⟨n-1,by omega,i+1,_,rfl,rfl,by omega,hr⟩
       ·rename_i hf
        rw[if_neg hf]at hr
        rw[← hr]at k;exact k
      ·obtain rfl:i=(c::t).length:=by omega
       rw[List.drop_length]at hr
       unfold r3F at hr
       rw[← hr]at k
       exact aa0 k
     refine bO (i:=0) (by simp) ?_
     (repeat refine aA ?_)
     have e0:(c::t)[0].toNat=c.toNat:=rfl
     have ec:c.toNat=114↔c=114:=⟨fun h=>by rw[← UInt8.ofNat_toNat (x:=c),h];rfl,fun h=>by rw[h];rfl⟩
     refine ah (fun h3=>?_) (fun h3=>?_)<;>simp only[za,zb,zc,zd,ze,zf,zg,zh,zi,u8i,zj,zk,zl]at h3
     ·(repeat (first|refine be ?_|refine bU ?_))
      rw[e0]at h3
      have h4:c=114:=ec.1 (by omega)
      refine go _ ?_
      rw[decide_eq_true h4,Bool.true_and]
      rw[Bool.eq_iff_iff];simp
      omega
     ·rw[e0]at h3
      have h4:¬ c=114:=fun h=>h3 (by have:=ec.2 h;omega)
      exact go _ (by rw[decide_eq_false h4,Bool.false_and])
end
end
end
end Go.Proofs.YtgkmmcdhhkllnaaGreatDoor.AL
