import Derived.Test.YtgkmmcdhhkllnaaGreatDoorAM4toAM6
import Derived.Test.YtgkmmcdhhkllnaaGreatDoorAL27toAL31
import Derived.MapKept
import Derived.Test.YtgkmmcdhhkllnaaGreatDoorF5
import Derived.Lib.Index
set_option linter.all false
set_option autoImplicit true
set_option relaxedAutoImplicit true
set_option maxRecDepth 100000
namespace Go.Proofs.YtgkmmcdhhkllnaaGreatDoor.AL
noncomputable section
class Ky (κ:Type) where
 dec:DecidableEq κ
 lt:κ→κ→Prop
 dlt:DecidableRel lt
 irr:∀ a,¬ lt a a
 trans:∀ {a b c},lt a b→lt b c→lt a c
 tri:∀ {a b},¬ lt a b→a≠b→lt b a
 val:κ→Value
 kd:TypeDesc
 kok:∀ k,kOk kd (val k)=true
 keq:∀ a b,AL.keq (val a) (val b)=@decide (a=b) (dec a b)
 one:∀ k,(val k).oneCell'=true
instance (κ:Type) [Ky κ]:DecidableEq κ:=Ky.dec
instance (κ:Type) [Ky κ]:DecidableRel (Ky.lt (κ:=κ)):=Ky.dlt
section
variable {κ α:Type}[Ky κ]
abbrev KM (κ α:Type):=List (κ×α)
abbrev KL (α:Type):=KM (List UInt8) α
def dm (k:κ):KM κ α→Option α
 | []=>none
 | (a,v)::r=>if k=a then some v else dm k r
def rn (k:κ) (v:α):KM κ α→KM κ α
 | []=>[(k,v)]
 | (a,w)::r=>if k=a then (k,v)::r else if Ky.lt k a then (k,v)::(a,w)::r else (a,w)::rn k v r
def FE (k:κ) (l:KM κ α):KM κ α:=l.filter fun x=>decide (x.1≠k)
def SoK (l:KM κ α):Prop:=l.Pairwise fun a b=>Ky.lt a.1 b.1
theorem TM {a b:κ}(h:Ky.lt a b):a≠b:=fun e=>by subst e;exact Ky.irr _ h
theorem acf {a b:κ}(h1:¬ Ky.lt a b) (h2:a≠b):Ky.lt b a:=Ky.tri h1 h2
theorem SoK.nd {l:KM κ α}(s:SoK l):(l.map (·.1)).Nodup:=by
 rw[List.nodup_iff_pairwise_ne,List.pairwise_map]
 exact s.imp fun h=>TM h
theorem oI {k:κ}{v:α}:∀ {l:KM κ α},SoK l→∀ x,x∈rn k v l↔x=(k,v)∨(x∈l∧x.1≠k)
 | [],_,x=>by simp[rn]
 | (a,w)::r,s,x=>by
   obtain⟨s1,s2⟩:=List.pairwise_cons.1 s
   unfold rn
   by_cases h:k=a
   ·subst h
    rw[if_pos rfl]
    simp only[List.mem_cons]
    constructor
    ·rintro (h|h)
     ·exact .inl h
     ·exact .inr ⟨.inr h,fun e=>TM (s1 x h) e.symm⟩
    ·rintro (h|⟨h|h,h2⟩)
     ·exact .inl h
     ·subst h;exact (h2 rfl).elim
     ·exact .inr h
   ·rw[if_neg h]
    split
    ·rename_i h1
     simp only[List.mem_cons]
     constructor
     ·rintro (h2|h2|h2)
      ·exact .inl h2
      ·exact .inr ⟨.inl h2,by subst h2;exact Ne.symm h⟩
      ·exact .inr ⟨.inr h2,fun e=>TM (Ky.trans h1 (s1 x h2)) e.symm⟩
     ·rintro (h2|⟨h2,_⟩)
      ·exact .inl h2
      ·exact .inr h2
    ·simp only[List.mem_cons,oI s2 x]
     constructor
     ·rintro (h2|h2|⟨h2,h3⟩)
      ·exact .inr ⟨.inl h2,by subst h2;exact Ne.symm h⟩
      ·exact .inl h2
      ·exact .inr ⟨.inr h2,h3⟩
     ·rintro (h2|⟨h2|h2,h3⟩)
      ·exact .inr (.inl h2)
      ·exact .inl h2
      ·exact .inr (.inr ⟨h2,h3⟩)
theorem BV {k:κ}{v:α}:∀ {l:KM κ α},SoK l→SoK (rn k v l)
 | [],_=>by simp[rn,SoK]
 | (a,w)::r,s=>by
   obtain⟨s1,s2⟩:=List.pairwise_cons.1 s
   unfold rn
   by_cases h:k=a
   ·subst h
    rw[if_pos rfl]
    exact List.pairwise_cons.2 ⟨s1,s2⟩
   ·rw[if_neg h]
    split
    ·rename_i h1
     refine List.pairwise_cons.2 ⟨fun x hx=>?_,s⟩
     rcases List.mem_cons.1 hx with rfl|hx
     ·exact h1
     ·exact Ky.trans h1 (s1 x hx)
    ·rename_i h1
     refine List.pairwise_cons.2 ⟨fun x hx=>?_,BV s2⟩
     rcases (oI s2 x).1 hx with rfl|⟨h2,_⟩
     ·exact acf h1 h
     ·exact s1 x h2
theorem xi {k:κ}{l:KM κ α}(x:κ×α):x∈FE k l↔x∈l∧x.1≠k:=by simp[FE]
theorem Ni {k:κ}{l:KM κ α}(s:SoK l):SoK (FE k l):=s.filter _
theorem lookK_none {k:κ}:∀ {l:KM κ α},dm k l=none↔∀ x∈l,x.1≠k
 | []=>by simp[dm]
 | (a,w)::r=>by
   unfold dm
   split
   ·rename_i h;subst h;simp
   ·rename_i h
    rw[lookK_none (l:=r)]
    simp only[List.mem_cons,forall_eq_or_imp]
    exact⟨fun hh=>⟨Ne.symm h,hh⟩,fun hh=>hh.2⟩
theorem ud {k:κ}{v:α}:∀ {l:KM κ α},(l.map (·.1)).Nodup→(dm k l=some v↔(k,v)∈l)
 | [],_=>by simp[dm]
 | (a,w)::r,nd=>by
   simp only[List.map_cons,List.nodup_cons]at nd
   unfold dm
   by_cases h:k=a
   ·subst h
    rw[if_pos rfl]
    simp only[Option.some.injEq,List.mem_cons,Prod.mk.injEq,true_and]
    constructor
    ·intro h;exact .inl h.symm
    ·rintro (h|h)
     ·exact h.symm
     ·exact (nd.1 (List.mem_map.2 ⟨_,h,rfl⟩)).elim
   ·rw[if_neg h,ud (l:=r) nd.2];simp[h]
theorem Qr {a b:KM κ α}(na:(a.map (·.1)).Nodup) (nb:(b.map (·.1)).Nodup) (e:∀ x,x∈a↔x∈b):a.Perm b:=
 (List.perm_ext_iff_of_nodup (List.Pairwise.of_map _ (fun _ _ h e=>h (by rw[e])) na) (List.Pairwise.of_map _ (fun _ _ h e=>h (by rw[e])) nb)).2 e
end
instance kyS:Ky (List UInt8) where
 dec:=inferInstance
 lt:=(·<·)
 dlt:=inferInstance
 irr _:=List.lt_irrefl _
 trans:=List.lt_trans
 tri h1 h2:=Std.lt_of_le_of_ne (List.not_lt.1 h1) (Ne.symm h2)
 val k:=.string ⟨⟨k⟩⟩
 kd:=.string
 kok _:=rfl
 keq x y:=by
  show ((⟨x⟩:Array UInt8)==⟨y⟩)=decide (x=y)
  rw[Bool.eq_iff_iff,decide_eq_true_eq];simp
 one _:=rfl
instance kyI:Ky Int where
 dec:=inferInstance
 lt:=(·<·)
 dlt:=inferInstance
 irr _:=Int.lt_irrefl _
 trans:=Int.lt_trans
 tri h1 h2:=by omega
 val k:=.int .i64 k
 kd:=.int .i64
 kok _:=rfl
 keq x y:=by
  show (x==y)=decide (x=y)
  rw[Bool.eq_iff_iff,decide_eq_true_eq];simp
 one _:=rfl
def mE {κ α:Type}[Ky κ] (enc:α→AV) (es:List (κ×Nat×α)):eN:=es.map fun e=>(Ky.val e.1,e.2.1,enc e.2.2)
structure MapR {κ α:Type}[Ky κ] (enc:α→AV) (es:List (κ×Nat×α)) (n:Nat) (l:KM κ α):Prop where
 up:(es.map (·.2.1)).Pairwise (·<·)
 lt:∀ e∈es,e.2.1<n
 nd:(es.map (·.1)).Nodup
 eq:∀ x,x∈es.map (fun e=>(e.1,e.2.2))↔x∈l
 so:SoK l
def MapS {κ α:Type}[Ky κ] (enc:α→AV) (l:KM κ α) (o:AObj):Prop:=∃ (es:List (κ×Nat×α)) (n:Nat),o=.amap (mE enc es) n∧MapR enc es n l
theorem MapS.nil {κ α:Type}[Ky κ] (enc:α→AV):MapS enc ([]:KM κ α) (.amap [] 0):=⟨[],0,rfl,by simp,by simp,by simp,by simp,by simp[SoK]⟩
section
variable {κ α:Type}[Ky κ] {enc:α→AV}{es:List (κ×Nat×α)}{n:Nat}{l:KM κ α}
theorem MapR.kv (m:MapR enc es n l):((es.map (fun e=>(e.1,e.2.2))).map (·.1)).Nodup:=by rw[List.map_map];exact m.nd
theorem MapR.perm (m:MapR enc es n l):(es.map (fun e=>(e.1,e.2.2))).Perm l:=Qr m.kv m.so.nd m.eq
theorem MapR.len (m:MapR enc es n l):es.length=l.length:=by have:=m.perm.length_eq;simpa using this
theorem LM (es:List (κ×Nat×α)):(mE enc es).all (fun e=>kOk (Ky.kd κ) e.1)=true:=by simp[mE,Ky.kok]
variable [Tabs]
theorem Oo (k:κ):∀ (i:Nat) (es:List (κ×Nat×α)),(lW (Ky.val k) (mE enc es) i=none∧∀ e∈es,e.1≠k)∨∃ j,∃ hj:j<es.length,lW (Ky.val k) (mE enc es) i=some (i+j,es[j].2.1,enc es[j].2.2)∧es[j].1=k
 | i,[]=>.inl ⟨rfl,by simp⟩
 | i,(a,b,v)::r=>by
   unfold mE
   rw[List.map_cons,lW,Ky.keq]
   by_cases h:k=a
   ·subst h
    exact .inr ⟨0,by simp,by simp,rfl⟩
   ·rw[if_neg (by simpa using h)]
    rcases Oo k (i+1) r with ⟨h1,h2⟩|⟨j,hj,h1,h2⟩
    ·exact .inl ⟨h1,by simpa using ⟨Ne.symm h,fun x y z=>h2 (x,y,z)⟩⟩
    ·exact .inr ⟨j+1,by simpa using hj,by unfold mE at h1;rw[h1];simp;omega,by simpa using h2⟩
theorem MapR.find (m:MapR enc es n l) (k:κ):(lW (Ky.val k) (mE enc es) 0=none∧dm k l=none∧∀ e∈es,e.1≠k)∨∃ j,∃ hj:j<es.length,lW (Ky.val k) (mE enc es) 0=some (j,es[j].2.1,enc es[j].2.2)∧es[j].1=k∧dm k l=some es[j].2.2:=by
 rcases Oo (enc:=enc) k 0 es with ⟨h1,h2⟩|⟨j,hj,h1,h2⟩
 ·refine .inl ⟨h1,lookK_none.2 fun x hx=>?_,h2⟩
  obtain⟨e,he,rfl⟩:=List.mem_map.1 ((m.eq x).2 hx)
  exact h2 e he
 ·refine .inr ⟨j,hj,by simpa using h1,h2,?_⟩
  rw[ud m.so.nd,← m.eq]
  exact List.mem_map.2 ⟨es[j],List.getElem_mem _,by rw[h2]⟩
theorem MapR.app (m:MapR enc es n l) {k:κ}{v:α}(hn:∀ e∈es,e.1≠k):MapR enc (es++[(k,n,v)]) (n+1) (rn k v l) where
 up:=by
  rw[List.map_append,List.pairwise_append]
  refine⟨m.up,by simp,fun a ha b hb=>?_⟩
  obtain⟨e,he,rfl⟩:=List.mem_map.1 ha
  simp at hb;subst hb;exact m.lt e he
 lt e he:=by
  rcases List.mem_append.1 he with h|h
  ·have:=m.lt e h;omega
  ·simp at h;subst h;simp
 nd:=by
  rw[List.map_append,List.nodup_append]
  refine⟨m.nd,by simp,fun a ha b hb e=>?_⟩
  obtain⟨x,hx,rfl⟩:=List.mem_map.1 ha
  simp at hb;subst hb;exact hn x hx e
 eq x:=by
  rw[List.map_append,List.mem_append,m.eq,oI m.so]
  simp only[List.map_cons,List.map_nil,List.mem_singleton]
  constructor
  ·rintro (h|h)
   ·obtain⟨e,he,rfl⟩:=List.mem_map.1 ((m.eq x).2 h)
    exact .inr ⟨h,hn e he⟩
   ·exact .inl h
  ·rintro (h|⟨h,_⟩)
   ·exact .inr h
   ·exact .inl h
 so:=BV m.so
theorem Rk {β:Type}{l:List β}(nd:l.Nodup) {i j:Nat}(hi:i<l.length) (hj:j<l.length) (e:l[i]=l[j]):i=j:=by
 rw[List.nodup_iff_pairwise_ne,List.pairwise_iff_getElem]at nd
 rcases Nat.lt_trichotomy i j with h|h|h
 ·exact (nd i j hi hj h e).elim
 ·exact h
 ·exact (nd j i hj hi h e.symm).elim
theorem zD {β γ:Type}(f:β→γ):∀ (l:List β) (j:Nat),(l.map f).eraseIdx j=(l.eraseIdx j).map f
 | [],j=>rfl
 | a::l,0=>rfl
 | a::l,j+1=>by simp[zD f l j]
theorem V4 {β:Type}{l:List β}{i:Nat}(hi:i<l.length) (nd:l.Nodup) (b x:β):x∈l.set i b↔x=b∨(x∈l∧x≠l[i]):=by
 constructor
 ·intro h
  obtain⟨j,hj,rfl⟩:=List.getElem_of_mem h
  rw[List.getElem_set]
  split
  ·exact .inl rfl
  ·rename_i hne
   rw[List.length_set]at hj
   exact .inr ⟨List.getElem_mem _,fun e=>hne (Rk nd hj hi e).symm⟩
 ·rintro (rfl|⟨h,hne⟩)
  ·exact List.mem_iff_getElem.2 ⟨i,by simpa using hi,by simp⟩
  ·obtain⟨j,hj,rfl⟩:=List.getElem_of_mem h
   refine List.mem_iff_getElem.2 ⟨j,by simpa using hj,?_⟩
   rw[List.getElem_set,if_neg]
   intro e;subst e;exact hne rfl
theorem MapR.set (m:MapR enc es n l) {k:κ}{v:α}{j:Nat}(hj:j<es.length) (hk:es[j].1=k):MapR enc (es.set j (k,es[j].2.1,v)) n (rn k v l):=by
 have e1:(es.set j (k,es[j].2.1,v)).map (·.2.1)=es.map (·.2.1):=by rw[List.map_set];refine List.ext_getElem (by simp) fun i h1 h2=>?_;rw[List.getElem_set];split<;>simp_all
 have e2:(es.set j (k,es[j].2.1,v)).map (·.1)=es.map (·.1):=by rw[List.map_set];refine List.ext_getElem (by simp) fun i h1 h2=>?_;rw[List.getElem_set];split<;>simp_all
 refine⟨by rw[e1];exact m.up,fun e he=>?_,by rw[e2];exact m.nd,fun x=>?_,BV m.so⟩
 ·have:e.2.1∈(es.set j (k,es[j].2.1,v)).map (·.2.1):=List.mem_map_of_mem he
  rw[e1]at this
  obtain⟨x,hx,he⟩:=List.mem_map.1 this
  rw[← he];exact m.lt x hx
 ·rw[List.map_set,oI m.so,← m.eq]
  have nd:(es.map (fun e=>(e.1,e.2.2))).Nodup:=List.Pairwise.of_map _ (fun _ _ h e=>h (by rw[e])) m.kv
  rw[V4 (by simpa using hj) nd]
  refine or_congr Iff.rfl (and_congr_right fun hx=>not_congr ?_)
  rw[List.getElem_map]
  constructor
  ·intro h;rw[h];exact hk
  ·intro h
   obtain⟨q,hq,rfl⟩:=List.getElem_of_mem hx
   rw[List.length_map]at hq
   simp only[List.getElem_map]at h ⊢
   have:=Rk m.nd (i:=q) (j:=j) (by simpa using hq) (by simpa using hj) (by simp[h,hk])
   subst this;rfl
theorem MapR.del (m:MapR enc es n l) {k:κ}{j:Nat}(hj:j<es.length) (hk:es[j].1=k):MapR enc (es.eraseIdx j) n (FE k l):=by
 have sub:=List.eraseIdx_sublist es j
 refine⟨m.up.sublist (sub.map _),fun e he=>m.lt e (sub.mem he),m.nd.sublist (sub.map _),fun x=>?_,Ni m.so⟩
 rw[xi,← m.eq]
 constructor
 ·intro h
  obtain⟨e,he,rfl⟩:=List.mem_map.1 h
  refine⟨List.mem_map.2 ⟨e,sub.mem he,rfl⟩,fun hx=>?_⟩
  obtain⟨q,hq,hne,rfl⟩:=List.mem_eraseIdx_iff_getElem.1 he
  exact hne (Rk m.nd (i:=q) (j:=j) (by simpa using hq) (by simpa using hj) (by simp[hk];exact hx))
 ·rintro ⟨h,hne⟩
  obtain⟨e,he,rfl⟩:=List.mem_map.1 h
  refine List.mem_map.2 ⟨e,?_,rfl⟩
  obtain⟨q,hq,rfl⟩:=List.getElem_of_mem he
  refine List.mem_eraseIdx_iff_getElem.2 ⟨q,hq,fun e=>hne (by subst e;exact hk),rfl⟩
theorem MapR.delNone (m:MapR enc es n l) {k:κ}(hn:dm k l=none):FE k l=l:=by
 rw[lookK_none]at hn
 exact List.filter_eq_self.2 fun x hx=>by simpa using hn x hx
variable {h0 h:ae}{M:List Nat}{L L':Own}{K:AV→Prop}{KH:QT}{KL':ae→Prop}
theorem Vb {o:AObj}{j:Nat}{k:κ}{z:AV}(e:h[j]?=some o) (m:MapS enc l o) (q:K (.tup [((dm k l).map enc).getD z,B (dm k l).isSome])):c6 (Ky.kd κ) true z (.map j) (.lit (Ky.val k)) h K:=⟨by
 obtain⟨es,n,rfl,r⟩:=m
 simp only[ir,e]
 rw[if_pos (by rw[LM,Ky.kok];rfl)]
 rcases r.find k with ⟨h1,h2,_⟩|⟨j,hj,h1,h2,h3⟩
 ·rw[h1];rw[h2]at q;exact q
 ·rw[h1];rw[h3]at q;exact q⟩
theorem SY {o:AObj}{j:Nat}{k:κ}{z:AV}(e:h[j]?=some o) (m:MapS enc l o) (q:K (((dm k l).map enc).getD z)):c6 (Ky.kd κ) false z (.map j) (.lit (Ky.val k)) h K:=⟨by
 obtain⟨es,n,rfl,r⟩:=m
 simp only[ir,e]
 rw[if_pos (by rw[LM,Ky.kok];rfl)]
 rcases r.find k with ⟨h1,h2,_⟩|⟨j,hj,h1,h2,h3⟩
 ·rw[h1];rw[h2]at q;exact q
 ·rw[h1];rw[h3]at q;exact q⟩
theorem QC {o:AObj}{j:Nat}(e:h[j]?=some o) (m:MapS enc l o) (q:K (I (l.length:Nat))):CK (.map j) h K:=⟨by
 obtain⟨es,n,rfl,r⟩:=m
 simp only[yk,e]
 rw[← r.len]at q
 simpa [mE] using q⟩
theorem MapS.put {o:AObj}(m:MapS enc l o) (k:κ) (v:α):∃ (es:List (κ×Nat×α)) (n:Nat),o=.amap (mE enc es) n∧MapS enc (rn k v l) (Ox (Ky.val k) (enc v) n (mE enc es)):=by
 obtain⟨es,n,rfl,r⟩:=m
 refine⟨es,n,rfl,?_⟩
 unfold Ox
 rcases r.find k with ⟨h1,h2,h3⟩|⟨j,hj,h1,h2,h3⟩
 ·rw[h1];exact⟨_,_,by simp[mE],r.app h3⟩
 ·rw[h1];exact⟨_,_,by simp[mE,List.map_set],r.set hj h2⟩
theorem ZA {o:AObj}{j:Nat}{k:κ}{v:α}(s:St h0 M h L) (e:(j,true,o)∈L) (m:MapS enc l o) (q:∀ o',MapS enc (rn k v l) o'→(∀ {L'},Sub L (j,true,o) L' (j,true,o')→St h0 M (h.set j o') L')→KL' (h.set j o')):bV (Ky.kd κ) (.map j) (.lit (Ky.val k)) (enc v) h KL':=⟨by
 obtain⟨es,n,rfl,m'⟩:=m.put k v
 simp only[gq,s.get e]
 rw[if_pos (by rw[LM,Ky.kok];rfl)]
 exact q _ m' fun u=>s.turn u⟩
theorem YP {o:AObj}{j:Nat}{k:κ}(s:St h0 M h L) (e:(j,true,o)∈L) (m:MapS enc l o) (q:∀ o' h',MapS enc (FE k l) o'→(∀ {L'},Sub L (j,true,o) L' (j,true,o')→St h0 M h' L')→KL' h'):qj (Ky.kd κ) (.map j) (.lit (Ky.val k)) h KL':=⟨by
 obtain⟨es,n,rfl,r⟩:=m
 simp only[pW,s.get e]
 rw[if_pos (by rw[LM,Ky.kok];rfl)]
 rcases r.find k with ⟨h1,h2,h3⟩|⟨j,hj,h1,h2,h3⟩
 ·rw[h1]
  refine q _ _ ⟨es,n,rfl,by rw[r.delNone h2];exact r⟩ fun u=>?_
  have:=s.turn u
  rwa [zI (s.get e)]at this
 ·rw[h1]
  exact q _ _ ⟨es.eraseIdx j,n,by simp[mE,zD],r.del hj h2⟩ fun u=>s.turn u⟩
end
section
variable [Tabs]
variable {α:Type}{enc:α→AV}{h0 h:ae}{M:List Nat}{L L':Own}{K:AV→Prop}{KS':ae→Prop}
theorem ur {l:KL α}{o:AObj}{j:Nat}{k:Str}{z:AV}(e:h[j]?=some o) (m:MapS enc l o) (q:K (.tup [((dm k l).map enc).getD z,B (dm k l).isSome])):c6 .string true z (.map j) (T k) h K:=Vb (κ:=List UInt8) e m q
theorem KI {l:KL α}{o:AObj}{j:Nat}{k:Str}{z:AV}(e:h[j]?=some o) (m:MapS enc l o) (q:K (((dm k l).map enc).getD z)):c6 .string false z (.map j) (T k) h K:=SY (κ:=List UInt8) e m q
theorem M6 {l:KL α}{o:AObj}{j:Nat}{k:Str}{v:α}(s:St h0 M h L) (e:(j,true,o)∈L) (m:MapS enc l o) (q:∀ o',MapS enc (rn k v l) o'→(∀ {L'},Sub L (j,true,o) L' (j,true,o')→St h0 M (h.set j o') L')→KS' (h.set j o')):bV .string (.map j) (T k) (enc v) h KS':=ZA (κ:=List UInt8) s e m q
theorem TI {l:KL α}{o:AObj}{j:Nat}{k:Str}(s:St h0 M h L) (e:(j,true,o)∈L) (m:MapS enc l o) (q:∀ o' h',MapS enc (FE k l) o'→(∀ {L'},Sub L (j,true,o) L' (j,true,o')→St h0 M h' L')→KS' h'):qj .string (.map j) (T k) h KS':=YP (κ:=List UInt8) s e m q
end
end
end Go.Proofs.YtgkmmcdhhkllnaaGreatDoor.AL
namespace Go.Proofs.YtgkmmcdhhkllnaaGreatDoor.AL
noncomputable section
open Go.RowKit Go.Maps Go.Sort Go.Shelf Go.WideElems Go.WideShapes
open Go.Proofs (encStr)
variable [Tabs]
section
variable {P:Program}
theorem aai {f g:FuncId}{tm:TypeId}(hK:AO P f g tm) {j:Nat}{h:ae}{o:AObj}(e:h[j]?=some o) {Q:QT}(k:Q (.fn (.func g) [] [.ptr h.length 0]) (h++[.keys j])):ACall P f [.map j] h Q:=by
 refine⟨hK.1,fun G w vs s r=>?_⟩
 obtain⟨x,rfl,hx⟩:=r.single
 simp only[Rep]at hx
 obtain⟨b,hb,rfl⟩:=hx
 refine (hK.2 b w).mono fun e w' ⟨he,hw⟩=>?_
 subst hw
 have x:ObjAt (G.add h.length (w.heap.size,0) 0) (w.alloc (.cells #[.map (some b)] tm)) h.length (.keys j):=by
  have hj:j≠h.length:=fun e=>by have:=s.fresh;rw[← e,hb]at this;cases this
  refine⟨w.heap.size,tm,b,by simp[Gh.add],?_,by simp only[Gh.add];rw[if_neg hj];exact hb⟩
  show (w.heap.push _)[w.heap.size]?=_
  simp
 obtain⟨s',ev⟩:=ln s _ _ 0 x
 refine⟨.fn (.func g) [] [.ptr h.length 0],_,_,_,he,?_,k,s',ev⟩
 simp only[Rep,RepL]
 refine⟨[],[.pointer (some ⟨w.heap.size,0,none⟩)],rfl,rfl,_,_,rfl,⟨w.heap.size,0,?_,rfl⟩,rfl⟩
 simp[Gh.add]
theorem Wx {α:Type}{enc:α→AV}{l:KL α}{f g:FuncId}{ks:TypeId}(hS:qE P f g ks) {i j:Nat}{h:ae}{o:AObj}(hi:h[i]?=some (.keys j)) (hj:h[j]?=some o) (m:MapS enc l o) (hlen:l.length≤1000000) (hsz:∀ x∈l,x.1.length≤1000000)
  {Q:QT} (k0:l=[]→Q (.full 0 []) h) (k1:l≠[]→Q (.sl h.length 0 l.length 1) (h++[.cells (l.map fun x=>oH x.1)])):ACall P f [.fn (.func g) [] [.ptr i 0]] h Q:=by
 obtain⟨es,clock,rfl,mr⟩:=m
 have hel:=mr.len
 have hkp:(es.map (·.1)).Perm (l.map (·.1)):=by have:=mr.perm.map (·.1);rwa [List.map_map]at this
 refine⟨hS.1,fun G w vs s r=>?_⟩
 obtain⟨x,rfl,hx⟩:=r.single
 simp only[Rep,RepL]at hx
 obtain⟨_,_,rfl,rfl,y,_,rfl,⟨b0,o0,hb0,rfl⟩,rfl⟩:=hx
 obtain⟨b1,el,q,e1,e2,e3⟩:=s.obj i _ hi
 rw[hb0]at e1;cases e1
 obtain⟨b2,arr,e4,e5,e6⟩:=s.obj j _ hj
 rw[e3]at e4;cases e4
 obtain⟨m1,m2⟩:=C9 e6
 have m1:arr.toList.map (·.key)=(es.map (·.1)).map fun a=>Value.string ⟨⟨a⟩⟩:=by rw[m1];simp only[mE,List.map_map];rfl
 have m2:arr.toList.map (·.born)=es.map (·.2.1):=by rw[m2];simp[mE]
 have harr:arr.toList.length=es.length:=by have:=e6.length;simpa [mE] using this
 have hsz':∀ a∈es.map (·.1),a.length≤1000000:=fun a ha=>by
  obtain⟨x,hx,rfl⟩:=List.mem_map.1 (hkp.mem_iff.1 ha)
  exact hsz x hx
 let R:Value→Option (DataW Unit×List MemPlace):=fun _=>some (.nil,[])
 have hkey:∀ x∈arr.toList,∃ a∈es.map (·.1),x.key=.string ⟨⟨a⟩⟩:=fun x hx=>by
  have:x.key∈arr.toList.map (·.key):=List.mem_map_of_mem hx
  rw[m1]at this
  obtain⟨a,ha,e⟩:=List.mem_map.1 this
  exact⟨a,ha,e.symm⟩
 have hrd:∀ x∈arr.toList,∀ a,x.key=.string ⟨⟨a⟩⟩→a.length≤1000000→Go.WideElems.rd P ks R x=some (.string a,.nil):=fun x hx a e ha=>by
  have:(⟨⟨a⟩⟩:ByteArray).size≤maxLen:=by show a.length≤maxLen;unfold maxLen;omega
  simp[Go.WideElems.rd,keyOf,mapKey,hS.2.1,e,this,R]
 have hfit:Fit P ks R arr clock:=by
  refine⟨?_,⟨fun x hx=>?_,?_,?_⟩,fun x hx=>?_⟩
  ·have:arr.size=es.length:=by simpa using harr
   unfold maxLen;omega
  ·have:x.born∈arr.toList.map (·.born):=List.mem_map_of_mem hx
   rw[m2]at this
   obtain⟨e,he,hb⟩:=List.mem_map.1 this
   rw[← hb];exact mr.lt e he
  ·rw[m2];exact mr.up.imp fun h=>Nat.ne_of_lt h
  ·rw[m1]
   refine List.pairwise_map.2 (mr.nd.imp fun h e=>h ?_)
   simpa using e
  ·obtain⟨a,ha,e⟩:=hkey x hx
   exact⟨_,hrd x hx a e (hsz' a ha)⟩
 have hsk:(strKeys (.map ((arr.toList.map (rg P ks R)).foldr DataW.insert []):DataW Unit)).Perm (es.map (·.1)):=by
  show ((arr.toList.map (rg P ks R)).foldr DataW.insert []).map (fun p=>strOf p.1) |>.Perm _
  refine ((sorted_perm _).map _).trans ?_
  rw[List.map_map]
  have:arr.toList.map ((fun p:Lit×DataW Unit=>strOf p.1) ∘ rg P ks R)=es.map (·.1):=by
   have e1:arr.toList.map ((fun p:Lit×DataW Unit=>strOf p.1) ∘ rg P ks R)=arr.toList.map fun x=>(match x.key with|.string s=>s.data.toList|_=>[]):=by
    refine List.map_congr_left fun x hx=>?_
    obtain⟨a,ha,e⟩:=hkey x hx
    simp only[Function.comp,rg,hrd x hx a e (hsz' a ha),Option.getD_some,strOf,e]
   rw[e1]
   have e2:arr.toList.map (fun x=>(match x.key with|.string s=>s.data.toList|_=>[]))=(arr.toList.map (·.key)).map fun v=>(match v with|.string s=>s.data.toList|_=>[]):=by rw[List.map_map];rfl
   rw[e2,m1,List.map_map]
   exact List.map_id'' (fun a=>rfl) _
  rw[this]
 have hsize:Maps.size (.map ((arr.toList.map (rg P ks R)).foldr DataW.insert []):DataW Unit)≤1000000:=by
  show ((arr.toList.map (rg P ks R)).foldr DataW.insert []).length≤_
  rw[length_sorted,List.length_map,harr,hel];exact hlen
 have hcell:w.cell? ⟨b0,0,none⟩=some (.map (some q)):=by simp[World.cell?,e2]
 have hlt:b0<w.heap.size:=(Array.getElem?_eq_some_iff.1 e2).1
 refine (hS.2.2 b0 q arr.size _ R w hlt hcell ⟨arr,clock,e5,hfit,Nat.le_refl _,rfl⟩ hsize).mono fun e w' ⟨v,ss,he,hp,hrow,hnil,hb⟩=>?_
 have hms:ss.mergeSort (fun x y=>decide (x≤y))=l.map (·.1):=by
  have h1:ss.mergeSort (fun x y=>decide (x≤y))=Bf (es.map (·.1)):=we (hp.trans hsk)
  rw[h1]
  refine List.Perm.eq_of_pairwise (le:=fun a b:List UInt8=>a≤b) (fun a b _ _ h1 h2=>List.le_antisymm h1 h2) (vh _) ?_ ((vz _).trans hkp)
  rw[List.pairwise_map]
  exact mr.so.imp fun h=>List.le_of_lt h
 rw[hms]at hrow
 have hslen:ss.length=l.length:=by have:=congrArg List.length hms;rw[List.length_mergeSort,List.length_map]at this;exact this
 rw[hslen]at hrow
 by_cases hl:l=[]
 ·have hss:ss=[]:=List.length_eq_zero_iff.1 (by rw[hslen,hl];rfl)
  obtain⟨s',ev⟩:=K4 s hb
  exact⟨.full 0 [],v,h,G,he,by rw[hnil.2 hss];simp[Rep],k0 hl,s',ev⟩
 ·rcases hrow.2 with ⟨hv,hz⟩|⟨gb,cap,cur,hv,hbase,hgb,c1,c2,c3,c4⟩
  ·simp at hz;exact (hl hz).elim
  ·have x:ObjAt (G.add h.length (gb,0) cap) w' h.length (.cells (l.map fun x=>oH x.1)):=by
    refine⟨gb,0,cur,ks,0,0,by simp[Gh.add],hgb,fun k _ hk=>by omega,?_,by simp[Gh.add,c3],fun j' a' ha'=>?_⟩
    ·simp[Gh.add];simpa using c1
    ·have hjl:j'<(l.map fun x=>oH x.1).length:=(List.getElem?_eq_some_iff.1 ha').1
     rw[List.getElem?_map]at ha'
     cases hjj:l[j']? with
     | none=>rw[hjj]at ha';cases ha'
     | some z=>
       rw[hjj]at ha'
       cases ha'
       refine⟨encStr z.1,?_,by simp[Rep,oH,encStr,Value.oneCell']⟩
       have hj3:(cur.toList.take (l.length*1))[j']?=some (encStr z.1):=by rw[c4,List.getElem?_map,List.getElem?_map,hjj];rfl
       rw[List.getElem?_take]at hj3
       split at hj3
       ·simpa using hj3
       ·cases hj3
   obtain⟨s',ev⟩:=La s hb gb hbase _ cap x
   refine⟨.sl h.length 0 l.length 1,v,_,_,he,?_,k1 hl,s',ev⟩
   rw[hv]
   simp only[Rep]
   exact⟨gb,0,cap,0,by simp[Gh.add],by simp[Gh.add],by simpa using c1,fun _=>rfl,rfl⟩
end
end
end Go.Proofs.YtgkmmcdhhkllnaaGreatDoor.AL
namespace Go.Proofs.YtgkmmcdhhkllnaaGreatDoor.AL
noncomputable section
variable [Tabs]
theorem B7 {l m:Str}{h:ae}{Q:QT}(k:Q (B (m.isPrefixOf l)) h):C gc [T l,T m] h Q:=by
 refine xL _ _ _ _ ?_
 unfold rE
 refine sM _ _ _ _ ?_
 unfold nz
 (repeat (first|refine aZ ?_|refine bz ?_))
 refine ah (fun hb=>?_) (fun hb=>?_)<;>simp only[za,zb,zc,zd,ze,zf,zg,zh,zi,u8i,zj,zk,zl]at hb
 ·(repeat refine aZ ?_)
  refine qg (by omega) (by omega) ?_
  (repeat refine aU ?_)
  have:decide (l.take m.length=m)=m.isPrefixOf l:=by
   rw[Bool.eq_iff_iff,decide_eq_true_eq,List.isPrefixOf_iff_prefix,List.prefix_iff_eq_take];exact eq_comm
  simp only[Int.toNat_natCast,this]
  exact k
 ·skip
  have:m.isPrefixOf l=false:=by
   rw[Bool.eq_false_iff];intro hp
   have:=(List.isPrefixOf_iff_prefix.1 hp).length_le
   omega
  rw[this]at k;exact k
def iR (c:UInt8):Str→Str
 | []=>[]
 | x::l=>if x=c then iR c l else x::l
theorem Fk (c:UInt8) (l:Str) {h:ae}{Q:QT}(k:Q (T (iR c l)) h):C eB [T l,U8 c] h Q:=by
 refine um _ _ _ _ ?_
 unfold oZ
 refine aQ (fun n vs h'=>h'=h∧∃ m:Str,vs=[T m]∧n=m.length∧iR c m=iR c l) l.length ⟨rfl,l,rfl,rfl,rfl⟩ ?_
 rintro n vs h' ⟨rfl,m,rfl,rfl,hm⟩
 unfold lY
 (repeat (first|refine aZ ?_|refine bD ?_))
 refine ah (fun hb=>?_) (fun hb=>?_)<;>simp only[za,zb,zc,zd,ze,zf,zg,zh,zi,u8i,zj,zk,zl]at hb
 ·cases m with
  | nil=>simp at hb
  | cons x m=>
    refine gV (by omega) (by simp) ?_
    (repeat refine aA ?_)
    simp only[Int.toNat_zero,List.getElem_cons_zero]
    refine ah (fun hc=>?_) (fun hc=>?_)<;>simp only[za,zb,zc,zd,ze,zf,zg,zh,zi,u8i,zj,zk,zl]at hc
    ·refine iw (by omega) (by simp;omega) ?_
     exact⟨m.length,by simp,trivial,m,rfl,rfl,by rw[← hm];simp[iR,hc]⟩
    ·rw[← hm]at k
     rw[iR,if_neg hc]at k;exact k
 ·have:m=[]:=by cases m with
   | nil=>rfl
   | cons=>simp at hb
  subst this
  rw[← hm]at k;exact k
theorem Lw (c:UInt8) (hc:c.toNat<128) (l:Str) {h:ae}{Q:QT}(k:Q (T (iR c l)) h):C kG [T l,T [c]] h Q:=by
 refine yY _ _ _ _ ?_
 unfold uv
 (repeat refine aU ?_)
 refine ah (fun hb=>?_) (fun hb=>?_)<;>simp only[za,zb,zc,zd,ze,zf,zg,zh,zi,u8i,zj,zk,zl]at hb
 ·subst hb;exact k
 ·(repeat (first|refine aZ ?_|refine aA ?_|refine aU ?_))
  refine ah (fun _=>?_) (fun hb=>(by exfalso;first|(simp at hb;done)|(simp at hb;omega)|(revert hb;decide)|omega))
  refine gV (by omega) (by simp) ?_
  (repeat refine aJ ?_)
  refine ah (fun _=>?_) (fun hb=>?_)
  ·refine gV (by omega) (by simp) ?_
   exact Fk c l k
  ·simp at hb;omega
end
end Go.Proofs.YtgkmmcdhhkllnaaGreatDoor.AL
namespace Go.Proofs.YtgkmmcdhhkllnaaGreatDoor.AL
noncomputable section
variable [Tabs]
def sY (p:Nat→Bool):List AV:=(List.range 256).map fun i=>B (p i)
omit [Tabs] in
theorem jx (p:Nat→Bool):(sY p).length=256:=by simp[sY]
theorem GA (p:Nat→Bool) {i:Nat}(h:i<256):(sY p)[i]?=some (B (p i)):=by simp[sY,h]
theorem YH (p:Nat→Bool) {i:Nat}(h:i<256):splice (sY p) i [B true]=sY (fun j=>decide (j=i)||p j):=by
 apply List.ext_getElem?
 intro j
 rw[dD (by simp[jx];omega)]
 simp only[List.length_cons,List.length_nil]
 rcases Nat.lt_or_ge j 256 with hj|hj
 ·rw[GA _ hj,GA _ hj]
  split
  ·rename_i hlt;simp[show j≠i by omega]
  ·split
   ·have:j=i:=by omega
    subst this;simp
   ·simp[show j≠i by omega]
 ·have:∀ q:Nat→Bool,(sY q)[j]?=none:=fun q=>List.getElem?_eq_none (by simp[jx];omega)
  rw[this,this]
  split
  ·rfl
  ·rw[if_neg (by omega)]
theorem QE (p:Nat→Bool):(sY p).all AV.one=true:=by simp[sY,AV.one,Value.oneCell']
theorem H2 (a b:List AV) (h:a.length=b.length):splice a 0 b=b:=by simp[splice,h]
theorem SE (cs:Str) (hc:∀ c∈cs,c.toNat<128) (hl:cs.length<1000) {h:ae}{Q:QT}(k:∀ h',Fr [] h h'→Q (.tup [.agg (sY fun i=>cs.any fun c=>decide (i=c.toNat)),B true]) h'):C cE [T cs] h Q:=by
 refine tT _ _ _ ?_
 unfold o8
 have s:=St.start h
 refine aM s fun i h1 s1=>?_
 have s1:St h [] h1 [(i,true,.cells (sY fun _=>false))]:=s1
 refine aQ (fun n vs h'=>∃ k:Nat,∃ b,vs=[b,I (k:Nat)]∧n+k=cs.length∧St h [] h' [(i,true,.cells (sY fun i=>(cs.take k).any fun c=>decide (i=c.toNat)))]) cs.length ⟨0,_,rfl,by simp,by simpa using s1⟩ ?_
 rintro n vs h' ⟨m,b,rfl,hn,s2⟩
 unfold lQ
 (repeat (first|refine aZ ?_|refine aJ ?_))
 refine ah (fun hb=>?_) (fun hb=>?_)<;>simp only[za,zb,zc,zd,ze,zf,zg,zh,zi,u8i,zj,zk,zl]at hb
 ·have hm:m<cs.length:=hb
  refine bR hm ?_
  (repeat refine bz ?_)
  have hcm:=hc cs[m] (by simp)
  refine ah (fun hb=>absurd hb (by simp;omega)) (fun _=>?_)
  refine (⟨(⟨⟨by omega,by omega⟩,?_⟩:cT 256 1 (.ptr i 0) (U8 cs[m]) _)⟩:cg 256 1 (.ptr i 0) (U8 cs[m]) _)
  simp only[Int.toNat_natCast,Nat.mul_one,Nat.zero_add]
  refine ax (cs:=sY fun i=>(cs.take m).any fun c=>decide (i=c.toNat)) s2 .head rfl rfl rfl (by rw[jx];omega) fun h3 s3=>?_
  (repeat refine aI (by omega) ?_)
  refine⟨n-1,by omega,m+1,_,rfl,by omega,?_⟩
  rw[show (B true).cells=[B true] from rfl,YH _ (by omega)]at s3
  have e:(fun i=>(cs.take (m+1)).any fun c=>decide (i=c.toNat))=(fun j=>decide (j=cs[m].toNat)||(cs.take m).any fun c=>decide (j=c.toNat)):=by
   funext j
   rw[List.take_succ_eq_append_getElem hm];simp only[List.any_append,List.any_cons,List.any_nil,Bool.or_false];exact Bool.or_comm _ _
  rw[e];exact s3
 ·have hm:m=cs.length:=by omega
  subst hm
  rw[List.take_length]at s2
  refine aF s2 (.head _) (by rw[jx];omega) ?_
  rw[List.drop_zero,List.take_of_length_le (by rw[jx];omega)]
  refine ax (cs:=sY fun i=>cs.any fun c=>decide (i=c.toNat)) s2 .head rfl (by simp[AV.cells,jx]) (by exact QE _) (by rw[jx];omega) fun h3 s3=>?_
  rw[show (AV.agg (sY fun i=>cs.any fun c=>decide (i=c.toNat))).cells=sY (fun i=>cs.any fun c=>decide (i=c.toNat)) from rfl,H2 _ _ rfl]at s3
  refine aF s3 (.head _) (by rw[jx];omega) ?_
  rw[List.drop_zero,List.take_of_length_le (by rw[jx];omega)]
  exact k _ s3.fr
theorem EY (p:Nat→Bool) (c:UInt8) {i:Nat}{h:ae}(e:h[i]?=some (.cells (sY p))) {Q:QT}(k:Q (B (p c.toNat)) h):C c5 [.ptr i 0,U8 c] h Q:=by
 refine ph _ _ _ _ ?_
 unfold kE
 have hc:=c.toNat_lt
 refine au (⟨(⟨⟨by omega,by omega⟩,?_⟩:cT 256 1 (.ptr i 0) (U8 c) _)⟩:cg 256 1 (.ptr i 0) (U8 c) _)
 simp only[Int.toNat_natCast,Nat.mul_one,Nat.zero_add]
 refine ag (St.startr e) (.head _) (GA p (by omega)) ?_
 exact k
theorem CT (p:Nat→Bool) (l:Str) {i:Nat}{h:ae}(e:h[i]?=some (.cells (sY p))) {Q:QT}(k:Q (T (l.dropWhile fun c=>p c.toNat)) h):C cm [T l,.ptr i 0] h Q:=by
 refine sN _ _ _ _ ?_
 unfold np
 refine aQ (fun n vs h'=>h'=h∧∃ m:Str,vs=[T m]∧n=m.length∧(m.dropWhile fun c=>p c.toNat)=l.dropWhile fun c=>p c.toNat) l.length ⟨rfl,l,rfl,rfl,rfl⟩ ?_
 rintro n vs h' ⟨rfl,m,rfl,rfl,hm⟩
 unfold lr gw kW
 (repeat (first|refine aZ ?_|refine bD ?_))
 refine ah (fun hb=>?_) (fun hb=>?_)<;>simp only[za,zb,zc,zd,ze,zf,zg,zh,zi,u8i,zj,zk,zl]at hb
 ·cases m with
  | nil=>simp at hb
  | cons x m=>
    refine gV (by omega) (by simp) ?_
    refine EY p x e ?_
    (repeat refine bm ?_)
    refine ah (fun hc=>?_) (fun hc=>?_)<;>simp only[za,zb,zc,zd,ze,zf,zg,zh,zi,u8i,zj,zk,zl]at hc
    ·rw[← hm,List.dropWhile_cons_of_neg (by simpa using hc)]at k;exact k
    ·refine iw (by omega) (by simp;omega) ?_
     exact⟨m.length,by simp,rfl,m,rfl,rfl,by rw[← hm,List.dropWhile_cons_of_pos (by simpa using hc)]⟩
 ·have:m=[]:=by cases m with
   | nil=>rfl
   | cons=>simp at hb
  subst this
  rw[← hm]at k;exact k
def wB (p:UInt8→Bool) (l:Str):Str:=(l.reverse.dropWhile p).reverse
theorem Ii {p:UInt8→Bool}{l:Str}{x:UInt8}(h:p x=true):wB p (l++[x])=wB p l:=by simp[wB,h]
theorem Hh {p:UInt8→Bool}{l:Str}{x:UInt8}(h:p x=false):wB p (l++[x])=l++[x]:=by simp[wB,h]
theorem CE (p:Nat→Bool) (l:Str) (hl:l.length<4611686018427387904) {i:Nat}{h:ae}(e:h[i]?=some (.cells (sY p))) {Q:QT}(k:Q (T (wB (fun c=>p c.toNat) l)) h):C dU [T l,.ptr i 0] h Q:=by
 refine rm _ _ _ _ ?_
 unfold mi
 refine aQ (fun n vs h'=>h'=h∧∃ m:Str,vs=[T m]∧n=m.length∧m.length≤l.length∧wB (fun c=>p c.toNat) m=wB (fun c=>p c.toNat) l) l.length ⟨rfl,l,rfl,rfl,Nat.le_refl _,rfl⟩ ?_
 rintro n vs h' ⟨rfl,m,rfl,rfl,hml,hm⟩
 unfold kA fM kC
 (repeat (first|refine aZ ?_|refine bD ?_))
 refine ah (fun hb=>?_) (fun hb=>?_)<;>simp only[za,zb,zc,zd,ze,zf,zg,zh,zi,u8i,zj,zk,zl]at hb
 ·rcases List.eq_nil_or_concat m with rfl|⟨m,x,rfl⟩
  ·simp at hb
  ·simp only[List.concat_eq_append]at *
   have hml':m.length+1≤l.length:=by simpa using hml
   refine aZ ?_
   refine cD (by simp;omega) ?_
   have e1:((m++[x]).length:Int)-1=(m.length:Nat):=by simp
   rw[e1]
   refine bR (by simp) ?_
   simp only[List.getElem_append_right (Nat.le_refl _),Nat.sub_self,List.getElem_cons_zero]
   refine EY p x e ?_
   (repeat refine bm ?_)
   refine ah (fun hc=>?_) (fun hc=>?_)<;>simp only[za,zb,zc,zd,ze,zf,zg,zh,zi,u8i,zj,zk,zl]at hc
   ·rw[← hm,Hh (by simpa using hc)]at k;exact k
   ·refine aZ ?_
    refine cD (by simp at hml ⊢;omega) ?_
    rw[e1]
    refine qg (by omega) (by simp;omega) ?_
    refine⟨m.length,by simp,rfl,m,by simp,rfl,by omega,?_⟩
    rw[← hm,Ii (by simpa using hc)]
 ·have:m=[]:=by cases m with
   | nil=>rfl
   | cons=>simp at hb
  subst this
  rw[← hm]at k;exact k
def TG (c:UInt8):Bool:=c=32||c=9
def ub (l:Str):Str:=(wB TG l).dropWhile TG
theorem WM (p:UInt8→Bool) (l:Str):(wB p l).length≤l.length:=by
 have:=(List.dropWhile_sublist p (l:=l.reverse)).length_le
 simpa [wB] using this
theorem Wc (p:UInt8→Bool) (l:Str):(l.dropWhile p).length≤l.length:=(List.dropWhile_sublist p).length_le
theorem qK (l:Str):(ub l).length≤l.length:=Nat.le_trans (Wc _ _) (WM _ _)
theorem FZ (l:Str) (hl:l.length<4611686018427387904) {h:ae}{Q:QT}(k:∀ h',Fr [] h h'→Q (T (ub l)) h'):C fO [T l,T [32,9]] h Q:=by
 refine Fi _ _ _ _ ?_
 unfold B2
 have eg:(fun c:UInt8=>([32,9]:Str).any fun d=>decide (c.toNat=d.toNat))=TG:=by
  funext c
  simp only[List.any_cons,List.any_nil,Bool.or_false,TG]
  congr 1<;>(rw[Bool.eq_iff_iff];simp[← UInt8.toNat_inj])
 (repeat refine aU ?_)
 refine ah (fun hb=>?_) (fun hb=>?_)<;>simp only[za,zb,zc,zd,ze,zf,zg,zh,zi,u8i,zj,zk,zl]at hb
 ·subst hb;exact k _ (Fr.refl _ _)
 ·(repeat (first|refine aZ ?_|refine aA ?_|refine aU ?_))
  refine ah (fun hb=>(by exfalso;first|(simp at hb;done)|(simp at hb;omega)|(revert hb;decide)|omega)) (fun _=>?_)
  refine SE [32,9] (by decide) (by decide) fun h1 f1=>?_
  have s:=(St.start h).call f1
  (repeat refine aG rfl ?_)
  refine aM s fun i h2 s2=>?_
  refine ax s2 .head rfl (by simp[AV.cells,jx]) (by exact QE _) (by decide) fun h3 s3=>?_
  rw[show (AV.agg (sY fun i=>([32,9]:Str).any fun c=>decide (i=c.toNat))).cells=sY (fun i=>([32,9]:Str).any fun c=>decide (i=c.toNat)) from rfl,H2 _ _ (by rw[jx];rfl)]at s3
  refine ah (fun _=>?_) (fun hb=>by cases hb)
  refine CE _ l hl (s3.get (.head _)) ?_
  refine CT _ _ (s3.get (.head _)) ?_
  rw[eg]
  exact k _ s3.fr
end
end Go.Proofs.YtgkmmcdhhkllnaaGreatDoor.AL
namespace Go.Proofs.YtgkmmcdhhkllnaaGreatDoor.AL
noncomputable section
variable [Tabs]
theorem wo {α:Type}{enc:α→List AV}(hs:∀ x,(enc x).length=4) (fv:AV) (p:α→Bool) (l:List α) (hl:l.length<4611686018427387904) {v:AV}{h:ae}(r:Row enc 4 h v l) {Q:QT}
  (hp:∀ x∈l,∀ (h':ae) (Q:QT),Fr [] h h'→(∀ h'',Fr [] h' h''→Q (B (p x)) h'')→CV fv [.agg (enc x)] h' Q) (k:∀ h',Fr [] h h'→Q (I (ga p l)) h'):C cL [v,fv] h Q:=by
 refine jv _ _ _ _ ?_
 unfold fb
 refine r.len ?_
 refine aQ (fun n vs h'=>Fr [] h h'∧∃ i:Nat,∃ b,vs=[b,I (i:Nat)]∧n+i=l.length∧∀ j (hj:j<i) (hj2:j<l.length),p l[j]=false) l.length ⟨Fr.refl _ _,0,_,rfl,by omega,fun j hj=>by omega⟩ ?_
 rintro n vs h' ⟨f1,i,b,rfl,hn,ha⟩
 unfold em
 (repeat refine aJ ?_)
 refine ah (fun hb=>?_) (fun hb=>?_)<;>simp only[za,zb,zc,zd,ze,zf,zg,zh,zi,u8i,zj,zk,zl]at hb
 ·have hi:i<l.length:=hb
  refine (r.fr f1).idx hs hi fun q t=>?_
  refine bq t (hs _).symm ?_
  refine hp l[i] (by simp) _ _ f1 fun h2 f2=>?_
  cases hpi:p l[i] with
  | true=>
    refine ah (fun _=>?_) (fun hb=>by cases hb)
    have:=k h2 (f1.trans f2 (by simp))
    rw[lM hi hpi fun j hj=>ha j hj (by omega)]at this
    exact this
  | false=>
    refine ah (fun hb=>by cases hb) (fun _=>?_)
    (repeat refine aI (by omega) ?_)
    refine⟨n-1,by omega,f1.trans f2 (by simp),i+1,_,rfl,by omega,fun j hj hj2=>?_⟩
    rcases Nat.lt_or_eq_of_le (Nat.le_of_lt_succ hj) with h1|h1
    ·exact ha j h1 hj2
    ·subst h1;exact hpi
 ·have:=k h' f1
  rw[iJ fun j hj=>ha j (by omega) hj]at this
  exact this
theorem vG {α:Type}{arg:α→AV}(fv:AV) (p:α→Bool) (l:List α) (hl:l.length<4611686018427387904) {v:AV}{h:ae}(r:Row (fun x=>[arg x]) 1 h v l) {Q:QT}
  (hp:∀ x∈l,∀ (h':ae) (Q:QT),Fr [] h h'→(∀ h'',Fr [] h' h''→Q (B (p x)) h'')→CV fv [arg x] h' Q) (k:∀ h',Fr [] h h'→Q (I (ga p l)) h'):C cw [v,fv] h Q:=by
 refine iU _ _ _ _ ?_
 unfold eA
 refine r.len ?_
 refine aQ (fun n vs h'=>Fr [] h h'∧∃ i:Nat,∃ b,vs=[b,I (i:Nat)]∧n+i=l.length∧∀ j (hj:j<i) (hj2:j<l.length),p l[j]=false) l.length ⟨Fr.refl _ _,0,_,rfl,by omega,fun j hj=>by omega⟩ ?_
 rintro n vs h' ⟨f1,i,b,rfl,hn,ha⟩
 unfold dY
 (repeat refine aJ ?_)
 refine ah (fun hb=>?_) (fun hb=>?_)<;>simp only[za,zb,zc,zd,ze,zf,zg,zh,zi,u8i,zj,zk,zl]at hb
 ·have hi:i<l.length:=hb
  refine (r.fr f1).idx (fun _=>rfl) hi fun q t=>?_
  refine aK t ?_
  refine hp l[i] (by simp) _ _ f1 fun h2 f2=>?_
  cases hpi:p l[i] with
  | true=>
    refine ah (fun _=>?_) (fun hb=>by cases hb)
    have:=k h2 (f1.trans f2 (by simp))
    rw[lM hi hpi fun j hj=>ha j hj (by omega)]at this
    exact this
  | false=>
    refine ah (fun hb=>by cases hb) (fun _=>?_)
    (repeat refine aI (by omega) ?_)
    refine⟨n-1,by omega,f1.trans f2 (by simp),i+1,_,rfl,by omega,fun j hj hj2=>?_⟩
    rcases Nat.lt_or_eq_of_le (Nat.le_of_lt_succ hj) with h1|h1
    ·exact ha j h1 hj2
    ·subst h1;exact hpi
 ·have:=k h' f1
  rw[iJ fun j hj=>ha j (by omega) hj]at this
  exact this
theorem xe {α:Type}{enc:α→List AV}(hs:∀ x,(enc x).length=3) (fv:AV) (p:α→Bool) (l:List α) (hl:l.length<4611686018427387904) {v:AV}{h:ae}(r:Row enc 3 h v l) {Q:QT}
  (hp:∀ x∈l,∀ (h':ae) (Q:QT),Fr [] h h'→(∀ h'',Fr [] h' h''→Q (B (p x)) h'')→CV fv [.agg (enc x)] h' Q) (k:∀ h',Fr [] h h'→Q (I (ga p l)) h'):C cP [v,fv] h Q:=by
 refine kQ _ _ _ _ ?_
 unfold fH
 refine r.len ?_
 refine aQ (fun n vs h'=>Fr [] h h'∧∃ i:Nat,∃ b,vs=[b,I (i:Nat)]∧n+i=l.length∧∀ j (hj:j<i) (hj2:j<l.length),p l[j]=false) l.length ⟨Fr.refl _ _,0,_,rfl,by omega,fun j hj=>by omega⟩ ?_
 rintro n vs h' ⟨f1,i,b,rfl,hn,ha⟩
 unfold eK
 (repeat refine aJ ?_)
 refine ah (fun hb=>?_) (fun hb=>?_)<;>simp only[za,zb,zc,zd,ze,zf,zg,zh,zi,u8i,zj,zk,zl]at hb
 ·have hi:i<l.length:=hb
  refine (r.fr f1).idx hs hi fun q t=>?_
  refine bq t (hs _).symm ?_
  refine hp l[i] (by simp) _ _ f1 fun h2 f2=>?_
  cases hpi:p l[i] with
  | true=>
    refine ah (fun _=>?_) (fun hb=>by cases hb)
    have:=k h2 (f1.trans f2 (by simp))
    rw[lM hi hpi fun j hj=>ha j hj (by omega)]at this
    exact this
  | false=>
    refine ah (fun hb=>by cases hb) (fun _=>?_)
    (repeat refine aI (by omega) ?_)
    refine⟨n-1,by omega,f1.trans f2 (by simp),i+1,_,rfl,by omega,fun j hj hj2=>?_⟩
    rcases Nat.lt_or_eq_of_le (Nat.le_of_lt_succ hj) with h1|h1
    ·exact ha j h1 hj2
    ·subst h1;exact hpi
 ·have:=k h' f1
  rw[iJ fun j hj=>ha j (by omega) hj]at this
  exact this
theorem xc {α:Type}{enc:α→List AV}(hs:∀ x,(enc x).length=2) (fv:AV) (p:α→Bool) (l:List α) (hl:l.length<4611686018427387904) {v:AV}{h:ae}(r:Row enc 2 h v l) {Q:QT}
  (hp:∀ x∈l,∀ (h':ae) (Q:QT),Fr [] h h'→(∀ h'',Fr [] h' h''→Q (B (p x)) h'')→CV fv [.agg (enc x)] h' Q) (k:∀ h',Fr [] h h'→Q (I (ga p l)) h'):C cR [v,fv] h Q:=by
 refine kS _ _ _ _ ?_
 unfold fJ
 refine r.len ?_
 refine aQ (fun n vs h'=>Fr [] h h'∧∃ i:Nat,∃ b,vs=[b,I (i:Nat)]∧n+i=l.length∧∀ j (hj:j<i) (hj2:j<l.length),p l[j]=false) l.length ⟨Fr.refl _ _,0,_,rfl,by omega,fun j hj=>by omega⟩ ?_
 rintro n vs h' ⟨f1,i,b,rfl,hn,ha⟩
 unfold eL
 (repeat refine aJ ?_)
 refine ah (fun hb=>?_) (fun hb=>?_)<;>simp only[za,zb,zc,zd,ze,zf,zg,zh,zi,u8i,zj,zk,zl]at hb
 ·have hi:i<l.length:=hb
  refine (r.fr f1).idx hs hi fun q t=>?_
  refine bq t (hs _).symm ?_
  refine hp l[i] (by simp) _ _ f1 fun h2 f2=>?_
  cases hpi:p l[i] with
  | true=>
    refine ah (fun _=>?_) (fun hb=>by cases hb)
    have:=k h2 (f1.trans f2 (by simp))
    rw[lM hi hpi fun j hj=>ha j hj (by omega)]at this
    exact this
  | false=>
    refine ah (fun hb=>by cases hb) (fun _=>?_)
    (repeat refine aI (by omega) ?_)
    refine⟨n-1,by omega,f1.trans f2 (by simp),i+1,_,rfl,by omega,fun j hj hj2=>?_⟩
    rcases Nat.lt_or_eq_of_le (Nat.le_of_lt_succ hj) with h1|h1
    ·exact ha j h1 hj2
    ·subst h1;exact hpi
 ·have:=k h' f1
  rw[iJ fun j hj=>ha j (by omega) hj]at this
  exact this
theorem tB {α:Type}{enc:α→List AV}(hs:∀ x,(enc x).length=4) (fv:AV) (p:α→Bool) (l:List α) (hl:l.length<4611686018427387904) {v:AV}{h:ae}(r:Row enc 4 h v l) {Q:QT}
  (hp:∀ x∈l,∀ (h':ae) (Q:QT),Fr [] h h'→(∀ h'',Fr [] h' h''→Q (B (p x)) h'')→CV fv [.agg (enc x)] h' Q) (k:∀ h',Fr [] h h'→Q (B (l.any p)) h'):C bL [v,fv] h Q:=by
 refine iO _ _ _ _ ?_
 unfold ee
 refine wo hs fv p l hl r hp fun h1 f1=>?_
 (repeat refine bz ?_)
 have:decide (0≤ga p l)=l.any p:=by rw[Bool.eq_iff_iff,decide_eq_true_eq];exact BS p l
 rw[this];exact k h1 f1
theorem ro {α:Type}{arg:α→AV}(fv:AV) (p:α→Bool) (l:List α) (hl:l.length<4611686018427387904) {v:AV}{h:ae}(r:Row (fun x=>[arg x]) 1 h v l) {Q:QT}
  (hp:∀ x∈l,∀ (h':ae) (Q:QT),Fr [] h h'→(∀ h'',Fr [] h' h''→Q (B (p x)) h'')→CV fv [arg x] h' Q) (k:∀ h',Fr [] h h'→Q (B (l.any p)) h'):C cd [v,fv] h Q:=by
 refine ia _ _ _ _ ?_
 unfold dV
 refine vG fv p l hl r hp fun h1 f1=>?_
 (repeat refine bz ?_)
 have:decide (0≤ga p l)=l.any p:=by rw[Bool.eq_iff_iff,decide_eq_true_eq];exact BS p l
 rw[this];exact k h1 f1
theorem lA (x:Str) (l:List (Str)) (hl:l.length<4611686018427387904) {v:AV}{h:ae}(r:Row (fun x:Str=>[T x]) 1 h v l) {Q:QT}(k:Q (I (ga (fun y=>decide (x=y)) l)) h):C bK [v,T x] h Q:=by
 refine od _ _ _ _ ?_
 unfold i9
 refine r.len ?_
 refine aQ (fun n vs h'=>h'=h∧∃ i:Nat,∃ b,vs=[b,I (i:Nat)]∧n+i=l.length∧∀ j (hj:j<i) (hj2:j<l.length),decide (x=l[j])=false) l.length ⟨rfl,0,_,rfl,by omega,fun j hj=>by omega⟩ ?_
 rintro n vs h' ⟨rfl,i,b,rfl,hn,ha⟩
 unfold hZ
 (repeat refine aJ ?_)
 refine ah (fun hb=>?_) (fun hb=>?_)<;>simp only[za,zb,zc,zd,ze,zf,zg,zh,zi,u8i,zj,zk,zl]at hb
 ·have hi:i<l.length:=hb
  refine r.idx (fun _=>rfl) hi fun q t=>?_
  refine aK t ?_
  refine aU ?_
  cases hpi:decide (x=l[i]) with
  | true=>
    refine ah (fun _=>?_) (fun hb=>by cases hb)
    rw[lM (p:=fun y=>decide (x=y)) hi hpi fun j hj=>ha j hj (by omega)]at k
    exact k
  | false=>
    refine ah (fun hb=>by cases hb) (fun _=>?_)
    (repeat refine aI (by omega) ?_)
    refine⟨n-1,by omega,rfl,i+1,_,rfl,by omega,fun j hj hj2=>?_⟩
    rcases Nat.lt_or_eq_of_le (Nat.le_of_lt_succ hj) with h1|h1
    ·exact ha j h1 hj2
    ·subst h1;exact hpi
 ·rw[iJ (p:=fun y=>decide (x=y)) fun j hj=>ha j (by omega) hj]at k
  exact k
theorem Ns (x:Int) (l:List (Int)) (hl:l.length<4611686018427387904) {v:AV}{h:ae}(r:Row (fun x:Int=>[I x]) 1 h v l) {Q:QT}(k:Q (I (ga (fun y=>decide (x=y)) l)) h):C gp [v,I x] h Q:=by
 refine tC _ _ _ _ ?_
 unfold ny
 refine r.len ?_
 refine aQ (fun n vs h'=>h'=h∧∃ i:Nat,∃ b,vs=[b,I (i:Nat)]∧n+i=l.length∧∀ j (hj:j<i) (hj2:j<l.length),decide (x=l[j])=false) l.length ⟨rfl,0,_,rfl,by omega,fun j hj=>by omega⟩ ?_
 rintro n vs h' ⟨rfl,i,b,rfl,hn,ha⟩
 unfold k8
 (repeat refine aJ ?_)
 refine ah (fun hb=>?_) (fun hb=>?_)<;>simp only[za,zb,zc,zd,ze,zf,zg,zh,zi,u8i,zj,zk,zl]at hb
 ·have hi:i<l.length:=hb
  refine r.idx (fun _=>rfl) hi fun q t=>?_
  refine aK t ?_
  refine aA ?_
  cases hpi:decide (x=l[i]) with
  | true=>
    refine ah (fun _=>?_) (fun hb=>by cases hb)
    rw[lM (p:=fun y=>decide (x=y)) hi hpi fun j hj=>ha j hj (by omega)]at k
    exact k
  | false=>
    refine ah (fun hb=>by cases hb) (fun _=>?_)
    (repeat refine aI (by omega) ?_)
    refine⟨n-1,by omega,rfl,i+1,_,rfl,by omega,fun j hj hj2=>?_⟩
    rcases Nat.lt_or_eq_of_le (Nat.le_of_lt_succ hj) with h1|h1
    ·exact ha j h1 hj2
    ·subst h1;exact hpi
 ·rw[iJ (p:=fun y=>decide (x=y)) fun j hj=>ha j (by omega) hj]at k
  exact k
theorem Al (x:Str) (l:List (Str)) (hl:l.length<4611686018427387904) {v:AV}{h:ae}(r:Row (fun x:Str=>[T x]) 1 h v l) {Q:QT}(k:Q (B (l.any fun y=>decide (x=y))) h):C dn [v,T x] h Q:=by
 refine l9 _ _ _ _ ?_
 unfold g7
 refine lA x l hl r ?_
 (repeat refine bz ?_)
 have:decide (0≤ga (fun y=>decide (x=y)) l)=l.any fun y=>decide (x=y):=by rw[Bool.eq_iff_iff,decide_eq_true_eq];exact BS _ l
 rw[this];exact k
theorem Fe (x:Int) (l:List (Int)) (hl:l.length<4611686018427387904) {v:AV}{h:ae}(r:Row (fun x:Int=>[I x]) 1 h v l) {Q:QT}(k:Q (B (l.any fun y=>decide (x=y))) h):C be [v,I x] h Q:=by
 refine pU _ _ _ _ ?_
 unfold lp
 refine Ns x l hl r ?_
 (repeat refine bz ?_)
 have:decide (0≤ga (fun y=>decide (x=y)) l)=l.any fun y=>decide (x=y):=by rw[Bool.eq_iff_iff,decide_eq_true_eq];exact BS _ l
 rw[this];exact k
theorem Dk {n:Nat}{cs:List AV}(hb:n*64≤1099511627776) {v:AV}{h:ae}(r:Rd h 5 v n cs) {Q:QT}(k:∀ h',Fr [] h h'→Q (.snap n cs) h'):C dJ [v] h Q:=by
 refine ACall.conv ?_
 refine fU _ _ _ ?_
 unfold en
 have hl:=r.len
 refine lO r (fun h0=>?_) ?_
 ·refine ah (fun _=>?_) (fun hb=>by cases hb)
  subst h0
  have:cs=[]:=by simpa using hl
  subst this
  exact cY (k _ (Fr.refl _ _))
 ·refine ah (fun hb=>by cases hb) (fun _=>?_)
  refine aB rfl rfl ?_
  refine oz (St.start h) r hb (fun h0=>?_) fun i h1 hn s=>?_
  ·subst h0
   have:cs=[]:=by simpa using hl
   subst this
   exact cY (k _ (Fr.refl _ _))
  ·exact mL (s.get (.head _)) hl (k _ (s.kill .head).fr)
theorem B1 {n:Nat}{cs:List AV}(hb:n*32≤1099511627776) {v:AV}{h:ae}(r:Rd h 3 v n cs) {Q:QT}(k:∀ h',Fr [] h h'→Q (.snap n cs) h'):C c9 [v] h Q:=by
 refine ACall.conv ?_
 refine fq _ _ _ ?_
 unfold dR
 have hl:=r.len
 refine lO r (fun h0=>?_) ?_
 ·refine ah (fun _=>?_) (fun hb=>by cases hb)
  subst h0
  have:cs=[]:=by simpa using hl
  subst this
  exact cY (k _ (Fr.refl _ _))
 ·refine ah (fun hb=>by cases hb) (fun _=>?_)
  refine aB rfl rfl ?_
  refine oz (St.start h) r hb (fun h0=>?_) fun i h1 hn s=>?_
  ·subst h0
   have:cs=[]:=by simpa using hl
   subst this
   exact cY (k _ (Fr.refl _ _))
  ·exact mL (s.get (.head _)) hl (k _ (s.kill .head).fr)
theorem CG {n:Nat}{cs:List AV}(hb:n*80≤1099511627776) {v:AV}{h:ae}(r:Rd h 6 v n cs) {Q:QT}(k:∀ h',Fr [] h h'→Q (.snap n cs) h'):C dh [v] h Q:=by
 refine ACall.conv ?_
 refine fm _ _ _ ?_
 unfold dQ
 have hl:=r.len
 refine lO r (fun h0=>?_) ?_
 ·refine ah (fun _=>?_) (fun hb=>by cases hb)
  subst h0
  have:cs=[]:=by simpa using hl
  subst this
  exact cY (k _ (Fr.refl _ _))
 ·refine ah (fun hb=>by cases hb) (fun _=>?_)
  refine aB rfl rfl ?_
  refine oz (St.start h) r hb (fun h0=>?_) fun i h1 hn s=>?_
  ·subst h0
   have:cs=[]:=by simpa using hl
   subst this
   exact cY (k _ (Fr.refl _ _))
  ·exact mL (s.get (.head _)) hl (k _ (s.kill .head).fr)
theorem C3 {n:Nat}{cs:List AV}(hb:n*24≤1099511627776) {v:AV}{h:ae}(r:Rd h 2 v n cs) {Q:QT}(k:∀ h',Fr [] h h'→Q (.snap n cs) h'):C dG [v] h Q:=by
 refine ACall.conv ?_
 refine fV _ _ _ ?_
 unfold eo
 have hl:=r.len
 refine lO r (fun h0=>?_) ?_
 ·refine ah (fun _=>?_) (fun hb=>by cases hb)
  subst h0
  have:cs=[]:=by simpa using hl
  subst this
  exact cY (k _ (Fr.refl _ _))
 ·refine ah (fun hb=>by cases hb) (fun _=>?_)
  refine aB rfl rfl ?_
  refine oz (St.start h) r hb (fun h0=>?_) fun i h1 hn s=>?_
  ·subst h0
   have:cs=[]:=by simpa using hl
   subst this
   exact cY (k _ (Fr.refl _ _))
  ·exact mL (s.get (.head _)) hl (k _ (s.kill .head).fr)
theorem ta {n:Nat}{cs:List AV}(hb:n*1≤1099511627776) {v:AV}{h:ae}(r:Rd h 1 v n cs) {Q:QT}(k:∀ h',Fr [] h h'→Q (.snap n cs) h'):C dw [v] h Q:=by
 refine ACall.conv ?_
 refine jJ _ _ _ ?_
 unfold gO
 have hl:=r.len
 refine lO r (fun h0=>?_) ?_
 ·refine ah (fun _=>?_) (fun hb=>by cases hb)
  subst h0
  have:cs=[]:=by simpa using hl
  subst this
  exact cY (k _ (Fr.refl _ _))
 ·refine ah (fun hb=>by cases hb) (fun _=>?_)
  refine aB rfl rfl ?_
  refine oz (St.start h) r hb (fun h0=>?_) fun i h1 hn s=>?_
  ·subst h0
   have:cs=[]:=by simpa using hl
   subst this
   exact cY (k _ (Fr.refl _ _))
  ·exact mL (s.get (.head _)) hl (k _ (s.kill .head).fr)
theorem Nd {n:Nat}{cs:List AV}(hb:n*8≤1099511627776) {v:AV}{h:ae}(r:Rd h 1 v n cs) {Q:QT}(k:∀ h',Fr [] h h'→Q (.snap n cs) h'):C gm [v] h Q:=by
 refine ACall.conv ?_
 refine ll _ _ _ ?_
 unfold iV
 have hl:=r.len
 refine lO r (fun h0=>?_) ?_
 ·refine ah (fun _=>?_) (fun hb=>by cases hb)
  subst h0
  have:cs=[]:=by simpa using hl
  subst this
  exact cY (k _ (Fr.refl _ _))
 ·refine ah (fun hb=>by cases hb) (fun _=>?_)
  refine aB rfl rfl ?_
  refine oz (St.start h) r hb (fun h0=>?_) fun i h1 hn s=>?_
  ·subst h0
   have:cs=[]:=by simpa using hl
   subst this
   exact cY (k _ (Fr.refl _ _))
  ·exact mL (s.get (.head _)) hl (k _ (s.kill .head).fr)
theorem Fy {n:Nat}{cs:List AV}(hb:n*16≤1099511627776) {v:AV}{h:ae}(r:Rd h 1 v n cs) {Q:QT}(k:∀ h',Fr [] h h'→Q (.snap n cs) h'):C d4 [v] h Q:=by
 refine ACall.conv ?_
 refine gP _ _ _ ?_
 unfold eT
 have hl:=r.len
 refine lO r (fun h0=>?_) ?_
 ·refine ah (fun _=>?_) (fun hb=>by cases hb)
  subst h0
  have:cs=[]:=by simpa using hl
  subst this
  exact cY (k _ (Fr.refl _ _))
 ·refine ah (fun hb=>by cases hb) (fun _=>?_)
  refine aB rfl rfl ?_
  refine oz (St.start h) r hb (fun h0=>?_) fun i h1 hn s=>?_
  ·subst h0
   have:cs=[]:=by simpa using hl
   subst this
   exact cY (k _ (Fr.refl _ _))
  ·exact mL (s.get (.head _)) hl (k _ (s.kill .head).fr)
end
end Go.Proofs.YtgkmmcdhhkllnaaGreatDoor.AL
namespace Go.Proofs.YtgkmmcdhhkllnaaGreatDoor.AL
noncomputable section
variable [Tabs]
theorem HF (c:UInt8):c.toNat.toUInt8=c:=by simp
theorem ZV {l:Str}{c:UInt8}{K:AV→Prop}(k:K (I (Lib.indexByte l c))):YU .index [T l,U8 c] K:=⟨by
 simp only[AD,Int.toNat_natCast,HF];exact k⟩
theorem Z0 {l:Str}{c:UInt8}{K:AV→Prop}(k:K (I (l.count c:Nat))):YU .count [T l,U8 c] K:=⟨by
 simp only[AD,Int.toNat_natCast,HF,Lib.countByte];exact k⟩
theorem LO (l:Str) (c:UInt8) {h:ae}{Q:QT}(k:Q (I (Lib.indexByte l c)) h):C jy [T l,U8 c] h Q:=by
 refine wR _ _ _ _ ?_
 unfold rF
 refine th _ _ _ _ ?_
 unfold nA
 exact ZV k
theorem Jm (l:Str) (c:UInt8):0≤Lib.indexByte l c↔c∈l:=by
 induction l with
 | nil=>simp[Lib.indexByte]
 | cons b l ih=>
   unfold Lib.indexByte
   by_cases hb:b=c
   ·subst hb;simp
   ·have:(b==c)=false:=by simpa using hb
    rw[this]
    simp only[Bool.false_eq_true,if_false,List.mem_cons,← ih]
    have hge:=Lib.indexByte_ge l c
    split
    ·rename_i h;simp at h;rw[h];simp[Ne.symm hb]
    ·rename_i h;simp at h
     constructor
     ·intro _;right;omega
     ·rintro (h|h)
      ·exact (hb h.symm).elim
      ·omega
def bM (c:UInt8):Str→List Str
 | []=>[[]]
 | x::l=>if x=c then []::bM c l else match bM c l with|[]=>[[x]]|p::ps=>(x::p)::ps
omit [Tabs] in
theorem jH (c:UInt8):∀ l:Str,(bM c l).length=l.count c+1
 | []=>rfl
 | x::l=>by
   have ih:=jH c l
   unfold bM
   by_cases hx:x=c
   ·subst hx;simp[ih]
   ·rw[if_neg hx,List.count_cons_of_ne (by simpa using hx)]
    cases h:bM c l with
    | nil=>rw[h]at ih;simp at ih
    | cons p ps=>rw[h]at ih;simpa using ih
omit [Tabs] in
theorem J9 {c:UInt8}:∀ {l:Str},c∉l→bM c l=[l]
 | [],_=>rfl
 | x::l,h=>by
   simp only[List.mem_cons,not_or]at h
   unfold bM
   rw[if_neg (Ne.symm h.1),J9 h.2]
omit [Tabs] in
theorem A1 {c:UInt8}:∀ {a b:Str},c∉a→bM c (a++c::b)=a::bM c b
 | [],b,_=>by simp[bM]
 | x::a,b,h=>by
   simp only[List.mem_cons,not_or]at h
   rw[List.cons_append,bM,if_neg (Ne.symm h.1),A1 h.2]
omit [Tabs] in
theorem Qp {c:UInt8}{l:Str}(h:c∉l):Lib.index l [c]=-1:=Lib.index_none fun j hj=>by
 unfold Lib.occAt
 rw[Bool.eq_false_iff];intro hp
 have:=List.isPrefixOf_iff_prefix.1 hp
 have hm:c∈l.drop j:=this.subset (by simp)
 exact h (List.mem_of_mem_drop hm)
omit [Tabs] in
theorem QQ {c:UInt8}{a b:Str}(h:c∉a):Lib.index (a++c::b) [c]=a.length:=Lib.index_first (by simp) (by simp[Lib.occAt]) fun j hj=>by
 unfold Lib.occAt
 rw[Bool.eq_false_iff];intro hp
 have:=List.isPrefixOf_iff_prefix.1 hp
 rw[List.drop_append_of_le_length (by omega),List.drop_eq_getElem_cons hj]at this
 simp only[List.cons_append,List.cons_prefix_cons]at this
 exact h (this.1 ▸ List.getElem_mem _)
omit [Tabs] in
theorem Y9 {c:UInt8}:∀ {l:Str},c∈l→∃ a b,l=a++c::b∧c∉a
 | [],h=>by simp at h
 | x::l,h=>by
   by_cases hx:x=c
   ·subst hx;exact⟨[],l,rfl,by simp⟩
   ·obtain⟨a,b,rfl,h2⟩:=Y9 (l:=l) (by simpa [Ne.symm hx] using h)
    exact⟨x::a,b,rfl,by simp[Ne.symm hx,h2]⟩
def gH:Prop:=∀ (s sub:Str) (h:ae) (Q:QT),s.length<4294967281→Q (I (Lib.index s sub)) h→C jQ [T s,T sub] h Q
theorem D8 (c:UInt8) (l:Str):0<(bM c l).length:=by rw[jH];omega
theorem Qt (n:Nat):List.replicate n (T [])=(List.replicate n ([]:Str)).flatMap fun x=>[T x]:=by
 induction n with
 | zero=>rfl
 | succ n ih=>simp[List.replicate_succ,ih]
theorem XP (l:List Str):(l.flatMap fun x=>[T x])=l.map T:=by induction l<;>simp_all
theorem AI {l:List Str}{k:Nat}{x:Str}(h:k<l.length):splice (l.flatMap fun x=>[T x]) k [T x]=(l.set k x).flatMap fun x=>[T x]:=by
 rw[XP,XP]
 apply List.ext_getElem?;intro j
 rw[dD (by simp;omega)]
 simp only[List.length_cons,List.length_nil,List.getElem?_map,List.getElem?_set]
 split
 ·rw[if_neg (by omega)]
 ·split
  ·have:j=k:=by omega
   subst this;simp[h]
  ·rw[if_neg (by omega)]
theorem K5 (hI:gH) (c:UInt8) (l:Str) (hl:l.length<4000000000) {h:ae}{Q:QT}(k:∀ i h',St h [] h' [(i,true,.cells ((bM c l).flatMap fun x=>[T x]))]→Q (.sl i 0 (bM c l).length 1) h'):C gQ [T l,T [c]] h Q:=by
 refine Dm _ _ _ _ ?_
 unfold zX
 refine yZ _ _ _ _ _ _ ?_
 unfold tV
 (repeat (first|refine aJ ?_|refine aA ?_|refine aU ?_))
 refine D4 _ _ _ _ ?_
 unfold Ae
 (repeat (first|refine aZ ?_|refine aA ?_))
 refine ah (fun _=>?_) (fun hb=>(by exfalso;first|(simp at hb;done)|(simp at hb;omega)|(revert hb;decide)|omega))
 refine bR (l:=[c]) (i:=0) (by simp) ?_
 refine Z0 (c:=c) ?_
 have hcnt:=List.count_le_length (a:=c) (l:=l)
 have hsl:=jH c l
 (repeat (first|refine aZ ?_|refine aI (by omega) ?_|refine Ss ?_))
 have e1:min ((l.count c:Int)+1) ((l.length:Int)+1)=((bM c l).length:Nat):=by rw[hsl];omega
 rw[e1]
 refine Co (St.start h) (Nat.le_refl _) (by omega) (by omega) fun i h1 s=>?_
 have s:St h [] h1 [(i,true,.cells (List.replicate (bM c l).length (T [])))]:=s
 rw[Qt]at s
 refine cD (by omega) ?_
 have e2:((bM c l).length:Int)-1=(((bM c l).length-1:Nat):Int):=by have:=D8 c l;omega
 rw[e2]
 refine aQ (fun n vs h'=>∃ (m:Nat) (r:Str) (ps:List Str),vs=[T r,I (m:Nat)]∧r.length≤l.length∧n+m=(bM c l).length∧ps.length=m∧bM c l=ps++bM c r∧St h [] h' [(i,true,.cells ((ps++List.replicate n []).flatMap fun x=>[T x]))]) (bM c l).length ⟨0,l,[],rfl,Nat.le_refl _,by omega,rfl,rfl,by simpa using s⟩ ?_
 rintro n vs h' ⟨m,r,ps,rfl,hr,hn,hps,hsp,s1⟩
 have hne:=D8 c r
 have hrl:=jH c r
 have hlen:(bM c l).length=m+(bM c r).length:=by rw[hsp];simp[hps]
 have fin:c∉r→gB (T r) (I (m:Nat)) (.sl i 0 (bM c l).length 1) h' Q:=by
  intro hc
  rw[J9 hc]at hlen hsp
  simp at hlen
  have hn1:n=1:=by omega
  subst hn1
  unfold gB pJ
  have R:Rd h' 1 (.sl i 0 (bM c l).length 1) (bM c l).length ((ps++List.replicate 1 []).flatMap fun x=>[T x]):=by
   have:=Rd.sl (sz:=1) (n:=(bM c l).length) (o:=0) (s1.get (.head _)) (by rw[eP _ 1 (fun _=>rfl)];simp;omega)
   rwa [List.drop_zero,List.take_of_length_le (by rw[eP _ 1 (fun _=>rfl)];simp;omega)]at this
  refine FW (by omega) ?_
  rw[Nat.mul_one]
  refine ax s1 .head rfl rfl rfl (by rw[eP _ 1 (fun _=>rfl)];simp;omega) fun h2 s2=>?_
  rw[show (T r).cells=[T r] from rfl,AI (by simp;omega)]at s2
  refine aI (by omega) ?_
  refine ZK (by omega) (by omega) ?_
  have e3:(ps++List.replicate 1 []).set m r=bM c l:=by
   rw[hsp,List.set_append_right _ _ (by omega),hps];simp
  rw[e3]at s2
  have e5:((m:Int)+1).toNat=(bM c l).length:=by rw[hsp];simp[hps]
  rw[e5]
  exact k _ _ s2
 unfold pQ
 (repeat refine aJ ?_)
 refine ah (fun hb=>?_) (fun hb=>?_)<;>simp only[za,zb,zc,zd,ze,zf,zg,zh,zi,u8i,zj,zk,zl]at hb
 ·refine hI r [c] _ _ (by omega) ?_
  by_cases hc:c∈r
  ·obtain⟨a,b,rfl,ha⟩:=Y9 hc
   rw[QQ ha]
   (repeat refine aJ ?_)
   refine ah (fun hb=>(by exfalso;first|(simp at hb;done)|(simp at hb;omega)|(revert hb;decide)|omega)) (fun _=>?_)
   refine aI (by simp at hr;omega) ?_
   have e3:((a.length:Int)+0)=(a.length:Nat):=by omega
   rw[e3]
   refine qg (by omega) (by simp;omega) ?_
   rw[Int.toNat_natCast,List.take_left]
   rw[A1 ha]at hlen
   have hnp:=D8 c b
   refine FW (by simp at hlen;omega) ?_
   rw[Nat.mul_one]
   refine ax s1 .head rfl rfl rfl (by rw[eP _ 1 (fun _=>rfl)];simp;omega) fun h2 s2=>?_
   rw[show (T a).cells=[T a] from rfl,AI (by simp;omega)]at s2
   refine aZ ?_
   refine aI (by simp at hr ⊢;omega) ?_
   have e4:((a.length:Int)+(([c]:Str).length:Nat))=((a.length+1:Nat):Int):=by simp
   rw[e4]
   refine iw (by omega) (by simp;omega) ?_
   rw[Int.toNat_natCast,show a.length+1=(a++[c]).length by simp,show a++c::b=(a++[c])++b by simp,List.drop_left]
   (repeat refine aI (by omega) ?_)
   rw[A1 ha]at hsp
   simp at hlen
   refine⟨n-1,by omega,m+1,b,ps++[a],rfl,by simp at hr;omega,by omega,by simp[hps],by rw[hsp];simp,?_⟩
   have e5:(ps++List.replicate n []).set m a=ps++[a]++List.replicate (n-1) []:=by
    rw[List.set_append_right _ _ (by omega),hps,Nat.sub_self]
    obtain⟨q,rfl⟩:∃ q,n=q+1:=⟨n-1,by omega⟩
    simp[List.replicate_succ]
   rw[e5]at s2;exact s2
  ·rw[Qp hc]
   (repeat refine aJ ?_)
   refine ah (fun _=>?_) (fun hb=>(by exfalso;first|(simp at hb;done)|(simp at hb;omega)|(revert hb;decide)|omega))
   exact fin hc
 ·refine fin fun hc=>?_
  have:0<r.count c:=List.count_pos_iff.2 hc
  simp[aq]at hb
  omega
theorem XF (hI:gH) (c:UInt8) (l:Str) (hl:l.length<4000000000) {h:ae}{Q:QT}(k:∀ h',Fr [] h h'→Q (.snap (bM c l).length ((bM c l).flatMap fun x=>[T x])) h'):C gQ [T l,T [c]] h Q:=by
 refine ACall.conv ?_
 refine K5 hI c l hl fun i h' s=>?_
 exact mL (s.get (.head _)) (eP _ 1 (fun _=>rfl) _) (k _ (s.kill .head).fr)
end
end Go.Proofs.YtgkmmcdhhkllnaaGreatDoor.AL
namespace Go.Proofs.YtgkmmcdhhkllnaaGreatDoor.AL
noncomputable section
structure Rw where
 name:List UInt8
 bits:Nat
 kinds:List UInt8
def tbl:List Rw:=[
 ⟨[115,101,95,105,108,108,101,103,97,108],0,[]⟩,
 ⟨[115,101,95,105,115,121,110,99],1,[]⟩,
 ⟨[115,101,95,115,99],2,[]⟩,
 ⟨[115,101,95,98,108,114],4,[]⟩,
 ⟨[115,101,95,98,99,116,114],6,[]⟩,
 ⟨[115,101,95,110,111,116],32,[88]⟩,
 ⟨[115,101,95,110,101,103],48,[88]⟩,
 ⟨[115,101,95,109,102,108,114],128,[88]⟩,
 ⟨[115,101,95,109,116,108,114],144,[88]⟩,
 ⟨[115,101,95,109,102,99,116,114],160,[88]⟩,
 ⟨[115,101,95,109,116,99,116,114],176,[88]⟩,
 ⟨[115,101,95,101,120,116,122,98],192,[88]⟩,
 ⟨[115,101,95,101,120,116,115,98],208,[88]⟩,
 ⟨[115,101,95,101,120,116,122,104],224,[88]⟩,
 ⟨[115,101,95,101,120,116,115,104],240,[88]⟩,
 ⟨[115,101,95,109,114],256,[88,32,89]⟩,
 ⟨[115,101,95,97,100,100],1024,[88,32,89]⟩,
 ⟨[115,101,95,109,117,108,108,119],1280,[88,32,89]⟩,
 ⟨[115,101,95,115,117,98],1536,[88,32,89]⟩,
 ⟨[115,101,95,99,109,112],3072,[88,32,89]⟩,
 ⟨[115,101,95,99,109,112,108],3328,[88,32,89]⟩,
 ⟨[115,101,95,97,100,100,105],8192,[88,32,79,53]⟩,
 ⟨[115,101,95,99,109,112,108,105],8704,[88,32,79,53]⟩,
 ⟨[115,101,95,115,117,98,105],9216,[88,32,79,53]⟩,
 ⟨[115,101,95,99,109,112,105],10752,[88,32,85,53]⟩,
 ⟨[115,101,95,111,114],17408,[88,32,89]⟩,
 ⟨[115,101,95,97,110,100,99],17664,[88,32,89]⟩,
 ⟨[115,101,95,97,110,100],17920,[88,32,89]⟩,
 ⟨[115,101,95,108,105],18432,[88,32,85,55]⟩,
 ⟨[115,101,95,98,99,108,114,105],24576,[88,32,85,53]⟩,
 ⟨[115,101,95,98,115,101,116,105],25600,[88,32,85,53]⟩,
 ⟨[115,101,95,98,116,115,116,105],26112,[88,32,85,53]⟩,
 ⟨[115,101,95,115,114,119,105],26624,[88,32,85,53]⟩,
 ⟨[115,101,95,115,108,119,105],27648,[88,32,85,53]⟩,
 ⟨[115,101,95,108,98,122],32768,[89,32,77,49,32,88]⟩,
 ⟨[115,101,95,115,116,98],36864,[89,32,77,49,32,88]⟩,
 ⟨[115,101,95,108,104,122],40960,[89,32,77,50,32,88]⟩,
 ⟨[115,101,95,115,116,104],45056,[89,32,77,50,32,88]⟩,
 ⟨[115,101,95,108,119,122],49152,[89,32,77,52,32,88]⟩,
 ⟨[115,101,95,115,116,119],53248,[89,32,77,52,32,88]⟩,
 ⟨[115,101,95,98,99],57344,[79,49,32,73,50,32,84,56]⟩,
 ⟨[115,101,95,98],59392,[84,56]⟩,
 ⟨[115,101,95,98,108],59648,[84,56]⟩,
 ⟨[101,95,97,100,100,49,54,105],469762048,[68,32,65,32,83,49,54]⟩,
 ⟨[101,95,97,100,100,105],402685952,[68,32,65,32,67,56]⟩,
 ⟨[101,95,97,110,100,105],402702336,[65,32,68,32,67,56]⟩,
 ⟨[101,95,111,114,105],402706432,[65,32,68,32,67,56]⟩,
 ⟨[101,95,120,111,114,105],402710528,[65,32,68,32,67,56]⟩,
 ⟨[101,95,108,105],1879048192,[68,32,76,50,48]⟩,
 ⟨[101,95,108,98,122],805306368,[68,32,83,49,54,32,65]⟩,
 ⟨[101,95,115,116,98],872415232,[68,32,83,49,54,32,65]⟩,
 ⟨[101,95,108,104,97],939524096,[68,32,83,49,54,32,65]⟩,
 ⟨[101,95,108,119,122],1342177280,[68,32,83,49,54,32,65]⟩,
 ⟨[101,95,115,116,119],1409286144,[68,32,83,49,54,32,65]⟩,
 ⟨[101,95,108,104,122],1476395008,[68,32,83,49,54,32,65]⟩,
 ⟨[101,95,115,116,104],1543503872,[68,32,83,49,54,32,65]⟩,
 ⟨[101,95,98],2013265920,[84,50,52]⟩,
 ⟨[101,95,98,108],2013265921,[84,50,52]⟩,
 ⟨[101,95,98,99],2046820352,[79,50,32,73,52,32,84,49,53]⟩,
 ⟨[101,95,98,99,108],2046820353,[79,50,32,73,52,32,84,49,53]⟩,
 ⟨[97,100,100],2080375316,[68,32,65,32,66]⟩,
 ⟨[115,117,98,102],2080374864,[68,32,65,32,66]⟩,
 ⟨[109,117,108,108,119],2080375254,[68,32,65,32,66]⟩,
 ⟨[97,110,100],2080374840,[65,32,68,32,66]⟩,
 ⟨[111,114],2080375672,[65,32,68,32,66]⟩,
 ⟨[120,111,114],2080375416,[65,32,68,32,66]⟩]
def kindsL:List (List UInt8×List (List UInt8)):=[
 ([],[]),
 ([88],[[88]]),
 ([88,32,89],[[88],[89]]),
 ([88,32,79,53],[[88],[79,53]]),
 ([88,32,85,53],[[88],[85,53]]),
 ([88,32,85,55],[[88],[85,55]]),
 ([89,32,77,49,32,88],[[89],[77,49],[88]]),
 ([89,32,77,50,32,88],[[89],[77,50],[88]]),
 ([89,32,77,52,32,88],[[89],[77,52],[88]]),
 ([79,49,32,73,50,32,84,56],[[79,49],[73,50],[84,56]]),
 ([84,56],[[84,56]]),
 ([68,32,65,32,83,49,54],[[68],[65],[83,49,54]]),
 ([68,32,65,32,67,56],[[68],[65],[67,56]]),
 ([65,32,68,32,67,56],[[65],[68],[67,56]]),
 ([68,32,76,50,48],[[68],[76,50,48]]),
 ([68,32,83,49,54,32,65],[[68],[83,49,54],[65]]),
 ([84,50,52],[[84,50,52]]),
 ([79,50,32,73,52,32,84,49,53],[[79,50],[73,52],[84,49,53]]),
 ([68,32,65,32,66],[[68],[65],[66]]),
 ([65,32,68,32,66],[[65],[68],[66]])]
end
end Go.Proofs.YtgkmmcdhhkllnaaGreatDoor.AL
set_option exponentiation.threshold 2000
namespace Go.Proofs.YtgkmmcdhhkllnaaGreatDoor.AL
noncomputable section
open Ieee
theorem OW {m:Nat}(h:m≠0):2^m.log2≤m∧m<2^(m.log2+1):=⟨Nat.log2_self_le h,Nat.lt_log2_self⟩
theorem Rn {neg:Bool}{m:Nat}(h0:m≠0) (h1:m<2^53):double.read (double.nearest neg m 0)=.number neg (m*2^(52-m.log2)) ((m.log2:Int)-52):=by
 obtain⟨hl,hu⟩:=OW h0
 have hL:m.log2≤52:=by
  have:m.log2<53:=(Nat.log2_lt h0).2 h1
  omega
 generalize hLe:m.log2=L at *
 have hp:2^L*2^(52-L)=2^52:=by rw[← Nat.pow_add];congr 1;omega
 have hp2:2^(L+1)*2^(52-L)=2^53:=by rw[← Nat.pow_add];congr 1;omega
 have hpos:0<2^(52-L):=Nat.two_pow_pos _
 have n1:2^52≤m*2^(52-L):=by rw[← hp];exact Nat.mul_le_mul_right _ hl
 have n2:m*2^(52-L)<2^53:=by rw[← hp2];exact Nat.mul_lt_mul_of_pos_right hu hpos
 generalize hn:m*2^(52-L)=n at *
 have hlast:max ((0:Int)+(L:Int)-(double.fractionBits:Int)) double.leastPlace=(L:Int)-52:=by
  show max ((0:Int)+(L:Int)-((52:Nat):Int)) (2-2^(11-1)-((52:Nat):Int))=_
  have:(2:Int)^(11-1)=1024:=by decide
  omega
 have hne:double.nearest neg m 0=double.word neg ((L+1022)*2^52+n):=by
  unfold Format.nearest
  rw[if_neg h0,hLe]
  simp only[hlast]
  have e1:((0:Int)-((L:Int)-52)).toNat=52-L:=by omega
  have e2:((L:Int)-52-0).toNat=0:=by omega
  have e3:((L:Int)-52-double.leastPlace).toNat=L+1022:=by
   have:double.leastPlace=-1074:=by decide
   omega
  have e4:Toward.even.cut neg (m <<< (52-L)) 0=n:=by
   rw[Nat.shiftLeft_eq,hn]
   unfold Toward.cut
   simp
   omega
  rw[e1,e2,e3,e4]
  have e5:double.binade=2^52:=rfl
  have e6:double.infRung=2047*2^52:=by decide
  rw[e5,e6,Nat.min_eq_left]
  omega
 rw[hne]
 have s1:double.signWeight=2^63:=by decide
 have e5:double.binade=2^52:=rfl
 have e6:double.infRung=2047*2^52:=by decide
 have e7:double.leastPlace=-1074:=by decide
 have hw:(double.word neg ((L+1022)*2^52+n)) / 2^63%2=neg.toNat∧(double.word neg ((L+1022)*2^52+n))%2^63=(L+1022)*2^52+n:=by
  unfold Format.word
  rw[s1]
  cases neg<;>simp<;>omega
 unfold Format.read
 simp only[s1,hw.1,hw.2,e5,e6,e7]
 rw[if_neg (by omega),if_pos (by omega)]
 congr 1
 ·cases neg<;>rfl
 ·omega
 ·omega
theorem BO {topE:Nat}(hE:topE=1074) (a:Int) (h:a.natAbs<2^53):∃ s m i,double.read (FloatKind.f64.nearest a)=.number s m i∧-1074≤i∧i≤0∧(if s=true then -((m:Int)*2^(i+topE).toNat) else (m:Int)*2^(i+topE).toNat)=a*2^topE:=by
 by_cases h0:a.natAbs=0
 ·have:a=0:=by omega
  subst this
  exact⟨false,0,-1074,by decide,by omega,by omega,by simp⟩
 ·refine⟨decide (a<0),_,_,Rn h0 h,?_,?_,?_⟩
  ·omega
  ·have:a.natAbs.log2<53:=(Nat.log2_lt h0).2 h
   omega
  ·have hL:a.natAbs.log2<53:=(Nat.log2_lt h0).2 h
   generalize a.natAbs.log2=L at *
   have e1:((L:Int)-52+topE).toNat=L+1022:=by omega
   have e2:((a.natAbs*2^(52-L):Nat):Int)*2^((L:Int)-52+topE).toNat=(a.natAbs:Int)*2^topE:=by
    rw[e1,Int.natCast_mul,Int.mul_assoc,Int.natCast_pow,show ((2:Nat):Int)=2 from rfl,← Int.pow_add]
    rw[show 52-L+(L+1022)=topE by omega]
   rw[e2]
   generalize (2:Int)^1074=X
   by_cases hn:a<0
   ·rw[if_pos (by simpa using hn),← Int.neg_mul,show -(a.natAbs:Int)=a by omega]
   ·rw[if_neg (by simpa using hn),show (a.natAbs:Int)=a by omega]
theorem Ur {a b c:Int}(hc:0<c):compare (a*c) (b*c)=compare a b:=by
 simp only[compare,compareOfLessAndEq]
 by_cases h1:a<b
 ·rw[if_pos h1,if_pos ((Int.mul_lt_mul_right hc).2 h1)]
 ·rw[if_neg h1,if_neg (fun h=>h1 ((Int.mul_lt_mul_right hc).1 h))]
  by_cases h2:a=b
  ·subst h2;simp
  ·rw[if_neg h2,if_neg (fun h=>h2 (Int.eq_of_mul_eq_mul_right (by omega) h))]
theorem KF (s:Bool) (m a b:Nat):signed s m a*2^b=if s=true then -((m:Int)*2^(a+b)) else (m:Int)*2^(a+b):=by
 have h:((m <<< a:Nat):Int)*2^b=(m:Int)*2^(a+b):=by
  rw[Nat.shiftLeft_eq,Int.natCast_mul,Int.natCast_pow,Int.mul_assoc,Int.pow_add];rfl
 unfold signed
 cases s
 ·simpa using h
 ·simp only[if_true];rw[Int.neg_mul,h]
theorem Ab (a b:Int) (ha:a.natAbs<2^53) (hb:b.natAbs<2^53):FloatKind.f64.format.order (FloatKind.f64.nearest a) (FloatKind.f64.nearest b)=some (compare a b):=by
 obtain⟨topE,hE⟩:∃ E,E=1074:=⟨_,rfl⟩
 obtain⟨s,m,i,h1,h2,h3,h4⟩:=BO hE a ha
 obtain⟨t,n,j,k1,k2,k3,k4⟩:=BO hE b hb
 show (double.read (FloatKind.f64.nearest a)).order (double.read (FloatKind.f64.nearest b))=_
 rw[h1,k1]
 simp only[Datum.order]
 congr 1
 have hp:∀ n:Nat,(0:Int)<2^n:=fun n=>Int.pow_pos (by decide)
 rw[← Ur (hp (min i j+topE).toNat),KF,KF]
 rw[show (i-min i j).toNat+(min i j+topE).toNat=(i+topE).toNat by omega,show (j-min i j).toNat+(min i j+topE).toNat=(j+topE).toNat by omega,h4,k4]
 exact Ur (hp topE)
end
end Go.Proofs.YtgkmmcdhhkllnaaGreatDoor.AL
namespace Go.Proofs.YtgkmmcdhhkllnaaGreatDoor.AL
noncomputable section
variable [Tabs]
def HA (r:Rw):List AV:=[T r.name,.lit (.int .u32 r.bits),T r.kinds]
theorem yB (r:Rw):(HA r).length=3:=rfl
set_option maxHeartbeats 4000000 in
theorem CH {h:ae}{Q:QT}(k:Q (.full tbl.length (tbl.flatMap HA)) h):C jU [] h Q:=by
 refine MY _ _ ?_
 unfold Kc
 (repeat (first|refine aD rfl ?_|refine aB rfl rfl ?_))
 exact k
theorem FR (h:ae):Row HA 3 h (.full tbl.length (tbl.flatMap HA)) tbl:=Row.full yB tbl
def nV (s:Str):Option Nat:=tbl.findIdx? fun r=>decide (r.name=s)
theorem TB (s:Str) {h:ae}{Q:QT}(k:∀ h',Fr [] h h'→Q (.tup [I (((nV s).getD 0:Nat):Int),B (nV s).isSome]) h'):C rv [T s] h Q:=by
 refine QO _ _ _ ?_
 unfold NH
 refine bB (St.start h) rfl fun i h1 s1=>?_
 refine CH ?_
 refine xe yB _ (fun r=>decide (r.name=s)) tbl (by decide) (FR h1) (fun x hx h2 Q f2 kq=>?_) fun h2 f2=>?_
 ·show ACall Pg tx _ _ _
  refine Jv _ _ _ _ ?_
  unfold Gg
  have s2:=St.startr (f2.get (s1.get (.head _)) (by simp))
  refine bB s2 rfl fun j h3 s3=>?_
  (repeat (first|refine aj ?_|refine aU ?_|refine ag ‹_› (by first|exact .head _|exact .tail _ (.head _)) rfl ?_))
  exact kq _ s3.fr
 ·(repeat (first|refine bz ?_|refine Ht ?_))
  have e1:max (ga (fun r=>decide (r.name=s)) tbl) 0=(((nV s).getD 0:Nat):Int):=by
   unfold ga nV
   cases tbl.findIdx? fun r=>decide (r.name=s) with
   | none=>rfl
   | some i=>simp
  have e2:decide (0≤ga (fun r=>decide (r.name=s)) tbl)=(nV s).isSome:=by
   unfold ga nV
   cases tbl.findIdx? fun r=>decide (r.name=s) with
   | none=>rfl
   | some i=>simp
  rw[e1,e2]
  exact k _ ((s1.call f2).fr)
end
end Go.Proofs.YtgkmmcdhhkllnaaGreatDoor.AL
namespace Go.Proofs.YtgkmmcdhhkllnaaGreatDoor.AL
noncomputable section
variable [Tabs]
def cB:Prop:=∀ p∈kindsL,∀ (h:ae) (Q:QT),Q (.snap p.2.length (p.2.flatMap fun x=>[T x])) h→C ez [T p.1] h Q
def dz:Prop:=∀ b∈[8,15,19,24],∀ (h:ae) (Q:QT),Q (.lit (.float .f64 (FloatKind.f64.nearest (2^b:Nat)))) h→C sR [.lit (.float .f64 4607182418800017408),I (b:Nat)] h Q
def cV (k:Str):List Str:=((kindsL.find? fun p=>decide (p.1=k)).map (·.2)).getD []
omit [Tabs] in
theorem WI:∀ r∈tbl,(r.kinds,cV r.kinds)∈kindsL:=by decide
theorem DC (hF:cB) {r:Rw}(hr:r∈tbl) {h:ae}{Q:QT}(k:Q (.snap (cV r.kinds).length ((cV r.kinds).flatMap fun x=>[T x])) h):C ez [T r.kinds] h Q:=hF _ (WI r hr) h Q k
abbrev HM (op:Nat):Str:=(tbl[op]?.map (·.name)).getD []
abbrev bp (op:Nat):Str:=(tbl[op]?.map (·.kinds)).getD []
abbrev LR (op:Nat):Nat:=(tbl[op]?.map (·.bits)).getD 0
theorem YN (r:Rw) {h:ae}{Q:QT}(k:∀ h',Fr [] h h'→Q (T r.name) h'):C n9 [.agg (HA r)] h Q:=by
 refine CM _ _ _ ?_
 unfold zO
 refine bB (St.start h) rfl fun i h1 s1=>?_
 (repeat (first|refine aj ?_|refine ag ‹_› (.head _) rfl ?_))
 exact k _ s1.fr
theorem PY (r:Rw) {h:ae}{Q:QT}(k:∀ h',Fr [] h h'→Q (T r.kinds) h'):C kK [.agg (HA r)] h Q:=by
 refine zp _ _ _ ?_
 unfold uE
 refine bB (St.start h) rfl fun i h1 s1=>?_
 (repeat (first|refine aj ?_|refine ag ‹_› (.head _) rfl ?_))
 exact k _ s1.fr
theorem aac (r:Rw) {h:ae}{Q:QT}(k:∀ h',Fr [] h h'→Q (.lit (.int .u32 r.bits)) h'):C om [.agg (HA r)] h Q:=by
 refine Jn _ _ _ ?_
 unfold II
 refine bB (St.start h) rfl fun i h1 s1=>?_
 (repeat (first|refine aj ?_|refine ag ‹_› (.head _) rfl ?_))
 exact k _ s1.fr
theorem Z8 (hF:cB) {r:Rw}(hr:r∈tbl) {h:ae}{Q:QT}(k:∀ h',Fr [] h h'→Q (.snap (cV r.kinds).length ((cV r.kinds).flatMap fun x=>[T x])) h'):C lz [.agg (HA r)] h Q:=by
 refine Fl _ _ _ ?_
 unfold BX
 refine bB (St.start h) rfl fun i h1 s1=>?_
 (repeat (first|refine aj ?_|refine ag ‹_› (.head _) rfl ?_))
 refine DC hF hr ?_
 exact k _ s1.fr
theorem X1 {op:Nat}(ho:op<tbl.length) (fv:AV) {h:ae}{Q:QT}(k:CV fv [.agg (HA tbl[op])] h Q):C jX [I (op:Nat),fv] h Q:=by
 refine DW _ _ _ _ ?_
 unfold zG
 refine CH ?_
 (repeat (first|refine ef ?_|refine aJ ?_|refine bz ?_))
 refine ah (fun _=>?_) (fun hb=>(by exfalso;first|(simp at hb;done)|(simp at hb;omega)|(revert hb;decide)|omega))
 refine (FR h).idx yB ho fun p t=>?_
 refine bq t rfl ?_
 exact k
theorem acH {op:Nat}(ho:op<tbl.length) (fv:AV) {h:ae}{Q:QT}(k:CV fv [.agg (HA tbl[op])] h Q):C nR [I (op:Nat),fv] h Q:=by
 refine Dy _ _ _ _ ?_
 unfold zx
 refine CH ?_
 (repeat (first|refine ef ?_|refine aJ ?_|refine bz ?_))
 refine ah (fun _=>?_) (fun hb=>(by exfalso;first|(simp at hb;done)|(simp at hb;omega)|(revert hb;decide)|omega))
 refine (FR h).idx yB ho fun p t=>?_
 refine bq t rfl ?_
 exact k
theorem aca {op:Nat}(ho:op<tbl.length) (fv:AV) {h:ae}{Q:QT}(k:CV fv [.agg (HA tbl[op])] h Q):C mG [I (op:Nat),fv] h Q:=by
 refine Bc _ _ _ _ ?_
 unfold xK
 refine CH ?_
 (repeat (first|refine ef ?_|refine aJ ?_|refine bz ?_))
 refine ah (fun _=>?_) (fun hb=>(by exfalso;first|(simp at hb;done)|(simp at hb;omega)|(revert hb;decide)|omega))
 refine (FR h).idx yB ho fun p t=>?_
 refine bq t rfl ?_
 exact k
omit [Tabs] in
theorem Dx {op:Nat}(ho:op<tbl.length):HM op=tbl[op].name:=by simp[HM,ho]
omit [Tabs] in
theorem jB {op:Nat}(ho:op<tbl.length):bp op=tbl[op].kinds:=by simp[bp,ho]
omit [Tabs] in
theorem WK {op:Nat}(ho:op<tbl.length):LR op=tbl[op].bits:=by simp[LR,ho]
theorem Tu {op:Nat}(ho:op<tbl.length) {h:ae}{Q:QT}(k:∀ h',Fr [] h h'→Q (T (HM op)) h'):C sB [I (op:Nat)] h Q:=by
 refine NB _ _ _ ?_
 unfold NN
 refine X1 ho _ ?_
 rw[Dx ho]at k
 exact YN _ k
theorem PP {op:Nat}(ho:op<tbl.length) {h:ae}{Q:QT}(k:∀ h',Fr [] h h'→Q (T (bp op)) h'):C qc [I (op:Nat)] h Q:=by
 refine LJ _ _ _ ?_
 unfold JL
 refine X1 ho _ ?_
 rw[jB ho]at k
 exact PY _ k
def mh (op:Nat):Nat:=if op<43 then 2 else 4
omit [Tabs] in
theorem Uf:∀ r∈tbl,r.name≠[]:=by decide
theorem Tl {op:Nat}(ho:op<tbl.length) {h:ae}{Q:QT}(k:∀ h',Fr [] h h'→Q (I (mh op:Nat)) h'):C rT [I (op:Nat)] h Q:=by
 refine Qo _ _ _ ?_
 unfold Pu
 refine Tu ho fun h1 f1=>?_
 (repeat refine aU ?_)
 have hn:HM op≠[]:=by rw[Dx ho];exact Uf _ (by simp)
 refine ah (fun hb=>absurd (by simpa using hb) hn) (fun _=>?_)
 (repeat refine aJ ?_)
 refine ah (fun hb=>?_) (fun hb=>?_)<;>simp only[za,zb,zc,zd,ze,zf,zg,zh,zi,u8i,zj,zk,zl]at hb
 ·have:=k h1 f1
  rw[mh,if_pos (by omega)]at this;exact this
 ·have:=k h1 f1
  rw[mh,if_neg (by omega)]at this;exact this
abbrev Fz (k:IntKind) (a b:Int):Int:=k.wrap ((BitVec.ofInt k.bits a &&& BitVec.ofInt k.bits b).toNat:Int)
abbrev orI (k:IntKind) (a b:Int):Int:=k.wrap ((BitVec.ofInt k.bits a ||| BitVec.ofInt k.bits b).toNat:Int)
abbrev Nk (k:IntKind) (a:Int) (n:Nat):Int:=k.wrap (a*2^(min n k.bits))
abbrev Mh (k:IntKind) (a:Int) (n:Nat):Int:=a.fdiv (2^(min n k.bits))
theorem Oi (v:Int) {h:ae}{Q:QT}(k:Q (.tup [I (Fz .i64 (Mh .i64 v 16) 15),I (Fz .i64 (Mh .i64 v 11) 31),I (Fz .i64 v 2047)]) h):C vw [I v] h Q:=by
 refine LQ _ _ _ ?_
 unfold Kj
 refine ym (by omega) ?_
 refine pV ?_
 refine ym (by omega) ?_
 refine pV ?_
 refine pV ?_
 exact k
def abq (v:Int) (b:Nat):Int:=Mh .i64 (Nk .i64 v (64-b)) (64-b)
theorem ZW (v:Int) (b:Nat) (h1:1≤b) (h2:b≤64) {h:ae}{Q:QT}(k:Q (I (abq v b)) h):C xy [I v,I (b:Nat)] h Q:=by
 refine Ph _ _ _ _ ?_
 unfold On
 refine Ht ?_
 refine Ss ?_
 have e:min (max (b:Int) 1) 64=(b:Int):=by omega
 rw[e]
 refine cD (by omega) ?_
 refine kP (by omega) ?_
 refine ym (by omega) ?_
 have e2:((64:Int)-(b:Int)).toNat=64-b:=by omega
 rw[e2]
 exact k
def Qv (f s ui v k:Int):Int:=orI .i64 (Nk .i64 v 8) (if k=s then Fz .i64 ui 255 else if f=1 then 255 else 0)
def K8 (f s ui:Int):Int:=abq (Qv f s ui (Qv f s ui (Qv f s ui (Qv f s ui 0 3) 2) 1) 0) 32
theorem vb (f s ui v:Int) (k:Int) (hk:0≤k) (hk2:k<10) (Q:QT) {h:ae}(next:NT) (q:next [I (Qv f s ui v k),I (k-1)] h):su (I f) (I s) (I ui) Q [I v,I k] h next:=by
 unfold su
 refine bz ?_
 refine ah (fun _=>?_) (fun hb=>absurd hb (by simpa [aq] using hk))
 have fin:∀ b,b=(if k=s then Fz .i64 ui 255 else if f=1 then 255 else 0)→sA (I b) (I v) (I k) h next:=by
  intro b hb
  unfold sA
  refine kP (by omega) ?_
  refine u0 ?_
  refine cD (by omega) ?_
  subst hb
  exact q
 have mid:∀ b,b=(if f=1 then (255:Int) else 0)→rZ (I b) (I v) (I k) (I s) (I ui) h next:=by
  intro b hb
  unfold rZ
  refine aA ?_
  refine ah (fun hc=>?_) (fun hc=>?_)<;>simp only[za,zb,zc,zd,ze,zf,zg,zh,zi,u8i,zj,zk,zl]at hc
  ·refine pV ?_
   exact fin _ (by rw[if_pos hc])
  ·exact fin _ (by rw[if_neg hc,hb])
 refine aA ?_
 refine ah (fun hc=>?_) (fun hc=>?_)<;>simp only[za,zb,zc,zd,ze,zf,zg,zh,zi,u8i,zj,zk,zl]at hc
 ·exact mid _ (by rw[if_pos hc])
 ·exact mid _ (by rw[if_neg hc])
theorem aaF (f s ui:Int) {h:ae}{Q:QT}(k:Q (I (K8 f s ui)) h):C yw [I f,I s,I ui] h Q:=by
 refine Pw _ _ _ _ _ ?_
 unfold OB
 refine Cc 5 ?_
 refine rN (vb f s ui 0 3 (by omega) (by omega) _ _ (rR ?_))
 refine rN (vb f s ui _ 2 (by omega) (by omega) _ _ (rR ?_))
 refine rN (vb f s ui _ 1 (by omega) (by omega) _ _ (rR ?_))
 refine rN (vb f s ui _ 0 (by omega) (by omega) _ _ (rR ?_))
 refine rN ?_
 unfold su
 refine bz ?_
 refine ah (fun hb=>absurd hb (by simp[aq])) (fun _=>?_)
 exact ZW _ 32 (by omega) (by omega) k
theorem ac1 (f s ui:Int) {h:ae}{Q:QT}(k:∀ h',Fr [] h h'→Q (I (K8 f s ui)) h'):C jN [.agg [I f,I s],I ui] h Q:=by
 refine Ik _ _ _ _ ?_
 unfold El
 refine bB (St.start h) rfl fun i h1 s1=>?_
 (repeat (first|refine aj ?_|refine ag ‹_› (.head _) rfl ?_))
 exact aaF f s ui (k _ s1.fr)
def GJ (v f s:Int):Int:=ga (fun ui:Nat=>decide (K8 f s ui=v)) (List.range 256)
theorem Zs (v f s:Int) {h:ae}{Q:QT}(k:∀ h',Fr [] h h'→Q (I (GJ v f s)) h'):C u9 [I v,.fn (.func jN) [.agg [I f,I s]] []] h Q:=by
 refine M2 _ _ _ _ ?_
 unfold Km
 refine aQ (fun n vs h'=>Fr [] h h'∧∃ i:Nat,∃ b,vs=[b,I (i:Nat)]∧n+i=256∧∀ j (hj:j<i),decide (K8 f s j=v)=false) 256 ⟨Fr.refl _ _,0,_,rfl,by omega,fun j hj=>by omega⟩ ?_
 rintro n vs h' ⟨f1,i,b,rfl,hn,ha⟩
 unfold B9
 (repeat refine aJ ?_)
 refine ah (fun hb=>?_) (fun hb=>?_)<;>simp only[za,zb,zc,zd,ze,zf,zg,zh,zi,u8i,zj,zk,zl]at hb
 ·have hi:i<256:=by omega
  show ACall Pg jN [.agg [I f,I s],I (i:Nat)] h' _
  refine ac1 f s i fun h2 f2=>?_
  refine aA ?_
  have hlen:i<(List.range 256).length:=by simpa using hi
  refine ah (fun hc=>?_) (fun hc=>?_)<;>simp only[za,zb,zc,zd,ze,zf,zg,zh,zi,u8i,zj,zk,zl]at hc
  ·have:=k h2 (f1.trans f2 (by simp))
   unfold GJ at this
   rw[lM (p:=fun ui:Nat=>decide (K8 f s ui=v)) hlen (by simpa using hc) fun j hj=>by simpa using ha j hj]at this
   exact this
  ·(repeat refine aI (by omega) ?_)
   refine⟨n-1,by omega,f1.trans f2 (by simp),i+1,_,rfl,by omega,fun j hj=>?_⟩
   rcases Nat.lt_or_eq_of_le (Nat.le_of_lt_succ hj) with h1|h1
   ·exact ha j h1
   ·subst h1;simpa using hc
 ·have:=k h' f1
  unfold GJ at this
  rw[iJ (p:=fun ui:Nat=>decide (K8 f s ui=v)) fun j hj=>by simpa using ha j (by simp at hj;omega)]at this
  exact this
def formsL:List (Int×Int):=[(0,0),(0,1),(0,2),(0,3),(1,0),(1,1),(1,2),(1,3)]
def TE (x:Int×Int):List AV:=[I x.1,I x.2]
def Uo (v:Int):List (Int×Int)→Option (Int×Int×Int)
 | []=>none
 | x::l=>if 0≤GJ v x.1 x.2 then some (x.1,x.2,GJ v x.1 x.2) else Uo v l
abbrev aap (v:Int):Option (Int×Int×Int):=Uo v formsL
theorem WY {h:ae}{Q:QT}(k:Q (.full formsL.length (formsL.flatMap TE)) h):C vM [] h Q:=by
 refine LG _ _ ?_
 unfold JH
 (repeat (first|refine aD rfl ?_|refine aB rfl rfl ?_))
 exact k
def adj (o:Option (Int×Int×Int)):AV:=match o with
 | some (f,s,ui)=>.tup [I f,I s,I ui,B true]
 | none=>.tup [I 0,I 0,I 0,B false]
theorem aaM (v:Int) {h:ae}{Q:QT}(k:∀ h',Fr [] h h'→Q (adj (aap v)) h'):C yF [I v] h Q:=by
 refine Ob _ _ _ ?_
 unfold N7
 refine WY ?_
 have R:∀ h,Row TE 2 h (.full formsL.length (formsL.flatMap TE)) formsL:=fun h=>Row.full (enc:=TE) (fun _=>rfl) formsL
 refine (R h).len ?_
 refine aQ (fun n vs h'=>Fr [] h h'∧∃ (i:Nat) (a b c d:AV),vs=[a,b,c,d,I (i:Nat)]∧n+i=8∧aap v=Uo v (formsL.drop i)) 8 ⟨Fr.refl _ _,0,_,_,_,_,rfl,by omega,rfl⟩ ?_
 rintro n vs h' ⟨f1,i,a,b,c,d,rfl,hn,hs⟩
 unfold EF
 (repeat refine aJ ?_)
 refine ah (fun hb=>?_) (fun hb=>?_)<;>simp only[za,zb,zc,zd,ze,zf,zg,zh,zi,u8i,zj,zk,zl]at hb
 ·have hi:i<formsL.length:=hb
  have e8:formsL.length=8:=rfl
  refine (R h').idx (fun _=>rfl) hi fun p t=>?_
  refine bq t rfl ?_
  have s:=(St.start h).call f1
  refine aM s fun q h2 s2=>?_
  refine ax s2 .head rfl rfl rfl (by decide) fun h3 s3=>?_
  (repeat refine aF ‹_› (.head _) (nle rfl) ?_)
  refine Zs v formsL[i].1 formsL[i].2 fun h4 f4=>?_
  have s4:=s3.call f4
  rw[List.drop_eq_getElem_cons hi,Uo]at hs
  (repeat refine bz ?_)
  refine ah (fun hc=>?_) (fun hc=>?_)<;>simp only[za,zb,zc,zd,ze,zf,zg,zh,zi,u8i,zj,zk,zl]at hc
  ·(repeat (first|refine aj ?_|refine ag ‹_› (.head _) rfl ?_))
   rw[if_pos hc]at hs
   have:=k h4 s4.fr
   rw[hs]at this
   exact this
  ·(repeat refine aI (by omega) ?_)
   rw[if_neg (by omega)]at hs
   exact⟨n-1,by omega,s4.fr,i+1,_,_,_,_,rfl,by omega,hs⟩
 ·have:=k h' f1
  rw[hs,List.drop_of_length_le (by simp[aq]at hb;simpa using hb)]at this
  exact this
