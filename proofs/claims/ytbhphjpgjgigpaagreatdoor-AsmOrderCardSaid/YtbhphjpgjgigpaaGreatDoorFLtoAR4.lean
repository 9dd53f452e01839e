import Derived.Test.YtbhphjpgjgigpaaGreatDoorF9
import Derived.Test.YtbhphjpgjgigpaaGreatDoorAA11toSC
import Derived.KernelRfl
import Derived.Test.YtbhphjpgjgigpaaGreatDoorAM4toAM6
import Derived.Test.YtbhphjpgjgigpaaGreatDoorAL27toAL31
import Derived.MapKept
import Derived.Test.YtbhphjpgjgigpaaGreatDoorAE5toAN4
set_option linter.all false
set_option autoImplicit true
set_option relaxedAutoImplicit true
set_option maxRecDepth 100000

namespace Go.Proofs.YtbhphjpgjgigpaaGreatDoor.AL
noncomputable section
def l0:Nat→Nat→Str
 | 0,_=>[]
 | f+1,n=>if n<10 then [UInt8.ofNat (48+n)] else l0 f (n / 10)++l0 f (n%10)
theorem tu:∀ f n,(l0 f n).length≤2^f
 | 0,_=>by simp[l0]
 | f+1,n=>by
   have h1:=tu f (n / 10)
   have h2:=tu f (n%10)
   have:1≤2^f:=Nat.one_le_two_pow
   unfold l0
   split
   ·simp[Nat.pow_succ];omega
   ·rw[List.length_append,Nat.pow_succ];omega
section
variable [Tabs]
variable {h:ae}{Q:QT}{K:AV→Prop}
theorem Tv {c:Int}(k:K (T [UInt8.ofNat c.toNat])):pA (.full 1 [.lit (.int .u8 c)]) h K:=⟨k⟩
theorem xM:∀ (f n:Nat),n<10^(f+1)→f≤9→∀ (h:ae) (Q:QT),(∀ h',Fr [] h h'→Q (T (l0 (f+1) n)) h')→C dk [I (n:Nat)] h Q
 | f,n,hn,hf,h,Q,k=>by
   refine wr _ _ _ ?_
   unfold xe
   have hp:(10:Nat)^(f+1)≤10^10:=Nat.pow_le_pow_right (by decide) (by omega)
   have hpw:(10:Nat)^(f+1)=10^f*10:=Nat.pow_succ ..
   unfold l0 at k
   refine aJ ?_
   refine ah (fun hb=>(by exfalso;first|(simp at hb;done)|(simp at hb;omega)|(revert hb;decide)|omega)) (fun _=>?_)
   refine bL ?_
   refine ah (fun hb=>?_) (fun hb=>?_)<;>simp only[za,zb,zc,zd,ze,zf,zg,zh,zi,u8i,zj,zk,zl]at hb
   ·have hb:10≤n:=by omega
    rw[if_neg (by omega)]at k
    obtain⟨f,rfl⟩:∃ g,f=g+1:=by
     cases f with
     | zero=>simp at hn;omega
     | succ g=>exact⟨g,rfl⟩
    refine tJ (by decide) ?_ ?_
    ·rw[Int.tdiv_eq_ediv_of_nonneg (by omega)];omega
    rw[Int.tdiv_eq_ediv_of_nonneg (by omega),show ((n:Nat):Int) / 10=((n / 10:Nat):Int) by omega]
    refine xM f (n / 10) (by omega) (by omega) h _ fun h1 f1=>?_
    refine n9 (by decide) ?_
    rw[Int.tmod_eq_emod_of_nonneg (by omega),show ((n:Nat):Int)%10=((n%10:Nat):Int) by omega]
    have h10:10≤10^(f+1):=by rw[Nat.pow_succ];have:=Nat.one_le_pow f 10 (by decide);omega
    refine xM f (n%10) (by omega) (by omega) h1 _ fun h2 f2=>?_
    have l1:=tu (f+1) (n / 10)
    have l2:=tu (f+1) (n%10)
    have l3:2^(f+1)≤2^10:=Nat.pow_le_pow_right (by decide) (by omega)
    refine d3 (by omega) ?_
    exact k h2 (f1.trans f2 (by simp))
   ·have hb:n<10:=by omega
    rw[if_pos hb]at k
    refine aI (by omega) ?_
    refine d7 ?_
    refine aB rfl rfl ?_
    have hw:IntKind.u8.wrap (48+(n:Nat))=((48+n:Nat):Int):=by
     have:n=0∨n=1∨n=2∨n=3∨n=4∨n=5∨n=6∨n=7∨n=8∨n=9:=by omega
     rcases this with h|h|h|h|h|h|h|h|h|h<;>subst h<;>decide
    rw[hw]
    refine Tv ?_
    exact k h (Fr.refl _ _)
end
end
end Go.Proofs.YtbhphjpgjgigpaaGreatDoor.AL
namespace Go.Proofs.YtbhphjpgjgigpaaGreatDoor.AL
noncomputable section
def S1:Ex→Bool
 | .neg e=>S1 e
 | .bin k a b=>(Nat.ble 5 k&&Nat.ble k 11)&&(S1 a&&S1 b)
 | _=>true
theorem D9:∀ {e:Ex},S1 e=true→okE e
 | .none,_=>trivial
 | .num _,_=>trivial
 | .name _,_=>trivial
 | .here,_=>trivial
 | .neg e,h=>D9 (e:=e) h
 | .bin k a b,h=>by
   simp only[S1,Bool.and_eq_true]at h
   exact⟨⟨Nat.le_of_ble_eq_true h.1.1,Nat.le_of_ble_eq_true h.1.2⟩,D9 h.2.1,D9 h.2.2⟩
def VF (a b:Bool):Bool:=match a with|true=>b|false=>true
theorem D2 {a b:Bool}(h:VF a b=true) (ha:a=true):b=true:=by subst ha;exact h
def aai (x:RS):Bool:=
 VF (Nat.beq x.kind 1) (Nat.ble (x.op+1) tbl.length&&Nat.ble (cK (bj x.op)).length x.args.length)&&
 (VF (Nat.beq x.kind 2) (Nat.ble (x.op+1) 3&&(Nat.ble (cK (bj (ir x.op))).length x.args.length&&Nat.ble (cK (bj (po x.op))).length x.args.length))&&
 (VF (Nat.ble 3 x.kind) (VF (!Nat.beq x.kind 6) (!x.args.isEmpty))&&
 (Nat.ble x.kind 9&&(Nat.ble x.args.length 999999999&&(Nat.ble x.text.length 999999999&&
 x.args.all fun a=>S1 a.e&&(Nat.ble (bn a.e) 999999&&decide (a.reg<1000)))))))
theorem Zr {x:RS}(h:aai x=true):WfS x:=by
 unfold aai at h
 simp only[Bool.and_eq_true]at h
 obtain⟨h1,h2,h3,h4,h5,h6,h7⟩:=h
 refine⟨fun hk=>?_,fun hk=>?_,fun hk hn=>?_,Nat.le_of_ble_eq_true h4,by have:=Nat.le_of_ble_eq_true h5;omega,by have:=Nat.le_of_ble_eq_true h6;omega,fun a ha=>?_⟩
 ·have:=D2 h1 (by rw[hk];rfl)
  simp only[Bool.and_eq_true]at this
  exact⟨Nat.le_of_ble_eq_true this.1,Nat.le_of_ble_eq_true this.2⟩
 ·have:=D2 h2 (by rw[hk];rfl)
  simp only[Bool.and_eq_true]at this
  exact⟨Nat.le_of_ble_eq_true this.1,Nat.le_of_ble_eq_true this.2.1,Nat.le_of_ble_eq_true this.2.2⟩
 ·have:=D2 (D2 h3 (Nat.ble_eq_true_of_le hk)) (by
   cases hb:Nat.beq x.kind 6 with
   | true=>exact (hn (Nat.eq_of_beq_eq_true hb)).elim
   | false=>rfl)
  intro he;rw[he]at this;cases this
 ·have:=List.all_eq_true.1 h7 a ha
  simp only[Bool.and_eq_true,decide_eq_true_eq]at this
  exact⟨D9 this.1,by have:=Nat.le_of_ble_eq_true this.2.1;omega,this.2.2⟩
section
variable [Tabs]
def Ub (frags:List Fg) (syms:List Sy):Bool:=
 Nat.ble frags.length 999&&(Nat.ble syms.length 999&&(Nat.ble (fh frags).length 99999&&(Nat.ble (tn frags).length 999999&&((frags.all fun x=>Nat.ble x.2.length 999999)&&(fh frags).all fun e=>aai e.x.2))))
theorem Ee {frags:List Fg}{syms:List Sy}(h:Ub frags syms=true):Few frags syms:=by
 unfold Ub at h
 simp only[Bool.and_eq_true]at h
 obtain⟨h1,h2,h3,h4,h5,h6⟩:=h
 refine⟨by have:=Nat.le_of_ble_eq_true h1;omega,by have:=Nat.le_of_ble_eq_true h2;omega,by have:=Nat.le_of_ble_eq_true h3;omega,by have:=Nat.le_of_ble_eq_true h4;omega,fun x hx=>?_,fun e he=>Zr (List.all_eq_true.1 h6 e he)⟩
 have:=Nat.le_of_ble_eq_true (List.all_eq_true.1 h5 x hx);omega
variable {h:ae}{Q:QT}{K:AV→Prop}
abbrev WG:Str:=[103,111,58,32,98,32,103,111]
abbrev ME:Str:=[103,111,58,32,98,32,103,111,10,46,98,121,116,101,32,107]
theorem ZV:(Ub [] []&&(iT [] []).isEmpty&&(Kf [] []).isEmpty)=true:=by kernel_rfl
theorem Yv:Ub [([97],ME)] [([107],7)]=true:=by kernel_rfl
theorem Zj:iT [([97],ME)] [([107],7)]=[]:=by kernel_rfl
theorem Zp:Kf [([97],ME)] [([107],7)]=[232,0,7]:=by kernel_rfl
theorem Yn:Ub [([97],[110,111,112])] []=true:=by kernel_rfl
theorem Q4:iT [([97],[110,111,112])] []=[([97],1,1)]:=by kernel_rfl
theorem Zg:Ub [([97],WG)] []=true:=by kernel_rfl
theorem YR:iT [([97],WG)] []=[]:=by kernel_rfl
theorem X4:Gx [([97],WG)] []=[2]:=by kernel_rfl
theorem Hq (hF:cD) (hI:g6) (hA:jT) (hL:dL) (k:∀ h',Fr [] h h'→Q (B true) h'):C nn [] h Q:=by
 refine HE _ _ ?_
 unfold G4
 have k1:=ZV
 simp only[Bool.and_eq_true,List.isEmpty_iff]at k1
 refine rh hF hI hA hL (frags:=[]) (syms:=[]) .nil .nil (Ee k1.1.1) (fun hn=>(hn k1.1.2).elim) fun _ h1 f1=>?_
 rw[k1.2]
 refine aE rfl (aE rfl (aD rfl (aB rfl rfl (aD rfl (aB rfl rfl ?_)))))
 refine rh hF hI hA hL (frags:=[([97],ME)]) (syms:=[([107],7)]) (Row.full (enc:=frE) (fun _=>rfl) [([97],ME)]) (Row.full (enc:=syE) (fun _=>rfl) [([107],7)]) (Ee Yv) (fun hn=>(hn Zj).elim) fun _ h2 f2=>?_
 rw[Zp]
 refine aE rfl (aE rfl (aD rfl (aB rfl rfl ?_)))
 refine rh hF hI hA hL (frags:=[([97],[110,111,112])]) (syms:=[]) (Row.full (enc:=frE) (fun _=>rfl) [([97],[110,111,112])]) .nil (Ee Yn) (fun _ h3 f3=>?_) (fun hn=>by rw[Q4]at hn;cases hn)
 rw[Q4]
 refine aE rfl (aE rfl (aD rfl (aB rfl rfl ?_)))
 refine Vr hF hI hA hL (frags:=[([97],WG)]) (syms:=[]) (Row.full (enc:=frE) (fun _=>rfl) [([97],WG)]) .nil (Ee Zg) (fun hn=>(hn YR).elim) fun _ h4 f4=>?_
 rw[X4]
 refine aE rfl (aE rfl ?_)
 refine cE (aA (ah (fun _=>?_) (fun h=>by cases h)))
 refine d6 (aA (ah (fun _=>?_) (fun h=>by cases h)))
 refine d6 (aA (ah (fun _=>?_) (fun h=>by cases h)))
 refine cE (aA (ah (fun _=>?_) (fun h=>by cases h)))
 have rb:Row bE 1 h4 (.snap ([232,0,7]:List Int).length (([232,0,7]:List Int).flatMap bE)) [232,0,7]:=Row.snap (enc:=bE) (fun _=>rfl) _
 refine rb.idx (j:=0) (fun _=>rfl) (by decide) fun p t=>?_
 refine aH t (aA (ah (fun _=>?_) (fun h=>by cases h)))
 refine rb.idx (j:=2) (fun _=>rfl) (by decide) fun p t=>?_
 refine aH t (aA (ah (fun _=>?_) (fun h=>by cases h)))
 have rd:Row dE 3 h4 (.snap ([([97],1,1)]:List Dg).length (([([97],1,1)]:List Dg).flatMap dE)) [([97],1,1)]:=Row.snap (enc:=dE) (fun _=>rfl) _
 refine cE (aA (ah (fun _=>?_) (fun h=>by cases h)))
 refine rd.idx (j:=0) (fun _=>rfl) (by decide) fun p t=>?_
 refine uS t (by decide) fun p2 t2=>?_
 refine aH t2 (aA (ah (fun _=>?_) (fun h=>by cases h)))
 refine ah (fun _=>?_) (fun h=>by cases h)
 refine cE (aA (ah (fun _=>?_) (fun h=>by cases h)))
 have rg:Row iE 1 h4 (.snap ([2]:List Int).length (([2]:List Int).flatMap iE)) [2]:=Row.snap (enc:=iE) (fun _=>rfl) _
 refine rg.idx (j:=0) (fun _=>rfl) (by decide) fun p t=>?_
 refine aH t (aA ?_)
 exact k h4 (((f1.trans f2 (by simp)).trans f3 (by simp)).trans f4 (by simp))
end
end
end Go.Proofs.YtbhphjpgjgigpaaGreatDoor.AL
namespace Go.Proofs.YtbhphjpgjgigpaaGreatDoor.AL
noncomputable section
class Ky (κ:Type) where
 dec:DecidableEq κ
 lt:κ→κ→Prop
 dlt:DecidableRel lt
 irr:∀ a,¬ lt a a
 trans:∀ {a b c},lt a b→lt b c→lt a c
 tri:∀ {a b},¬ lt a b→a≠b→lt b a
 val:κ→Value
 kd:TypeDesc
 kok:∀ k,kOk kd (val k)=true
 keq:∀ a b,AL.keq (val a) (val b)=@decide (a=b) (dec a b)
 one:∀ k,(val k).oneCell'=true
instance (κ:Type) [Ky κ]:DecidableEq κ:=Ky.dec
instance (κ:Type) [Ky κ]:DecidableRel (Ky.lt (κ:=κ)):=Ky.dlt
section
variable {κ α:Type}[Ky κ]
abbrev KM (κ α:Type):=List (κ×α)
def An (k:κ):KM κ α→Option α
 | []=>none
 | (a,v)::r=>if k=a then some v else An k r
def Hl (k:κ) (v:α):KM κ α→KM κ α
 | []=>[(k,v)]
 | (a,w)::r=>if k=a then (k,v)::r else if Ky.lt k a then (k,v)::(a,w)::r else (a,w)::Hl k v r
def SoK (l:KM κ α):Prop:=l.Pairwise fun a b=>Ky.lt a.1 b.1
theorem Vf {a b:κ}(h:Ky.lt a b):a≠b:=fun e=>by subst e;exact Ky.irr _ h
theorem aac {a b:κ}(h1:¬ Ky.lt a b) (h2:a≠b):Ky.lt b a:=Ky.tri h1 h2
theorem SoK.nd {l:KM κ α}(s:SoK l):(l.map (·.1)).Nodup:=by
 rw[List.nodup_iff_pairwise_ne,List.pairwise_map]
 exact s.imp fun h=>Vf h
theorem Bc {k:κ}{v:α}:∀ {l:KM κ α},SoK l→∀ x,x∈Hl k v l↔x=(k,v)∨(x∈l∧x.1≠k)
 | [],_,x=>by simp[Hl]
 | (a,w)::r,s,x=>by
   obtain⟨s1,s2⟩:=List.pairwise_cons.1 s
   unfold Hl
   by_cases h:k=a
   ·subst h
    rw[if_pos rfl]
    simp only[List.mem_cons]
    constructor
    ·rintro (h|h)
     ·exact .inl h
     ·exact .inr ⟨.inr h,fun e=>Vf (s1 x h) e.symm⟩
    ·rintro (h|⟨h|h,h2⟩)
     ·exact .inl h
     ·subst h;exact (h2 rfl).elim
     ·exact .inr h
   ·rw[if_neg h]
    split
    ·rename_i h1
     simp only[List.mem_cons]
     constructor
     ·rintro (h2|h2|h2)
      ·exact .inl h2
      ·exact .inr ⟨.inl h2,by subst h2;exact Ne.symm h⟩
      ·exact .inr ⟨.inr h2,fun e=>Vf (Ky.trans h1 (s1 x h2)) e.symm⟩
     ·rintro (h2|⟨h2,_⟩)
      ·exact .inl h2
      ·exact .inr h2
    ·simp only[List.mem_cons,Bc s2 x]
     constructor
     ·rintro (h2|h2|⟨h2,h3⟩)
      ·exact .inr ⟨.inl h2,by subst h2;exact Ne.symm h⟩
      ·exact .inl h2
      ·exact .inr ⟨.inr h2,h3⟩
     ·rintro (h2|⟨h2|h2,h3⟩)
      ·exact .inr (.inl h2)
      ·exact .inl h2
      ·exact .inr (.inr ⟨h2,h3⟩)
theorem Lk {k:κ}{v:α}:∀ {l:KM κ α},SoK l→SoK (Hl k v l)
 | [],_=>by simp[Hl,SoK]
 | (a,w)::r,s=>by
   obtain⟨s1,s2⟩:=List.pairwise_cons.1 s
   unfold Hl
   by_cases h:k=a
   ·subst h
    rw[if_pos rfl]
    exact List.pairwise_cons.2 ⟨s1,s2⟩
   ·rw[if_neg h]
    split
    ·rename_i h1
     refine List.pairwise_cons.2 ⟨fun x hx=>?_,s⟩
     rcases List.mem_cons.1 hx with rfl|hx
     ·exact h1
     ·exact Ky.trans h1 (s1 x hx)
    ·rename_i h1
     refine List.pairwise_cons.2 ⟨fun x hx=>?_,Lk s2⟩
     rcases (Bc s2 x).1 hx with rfl|⟨h2,_⟩
     ·exact aac h1 h
     ·exact s1 x h2
theorem lookK_none {k:κ}:∀ {l:KM κ α},An k l=none↔∀ x∈l,x.1≠k
 | []=>by simp[An]
 | (a,w)::r=>by
   unfold An
   split
   ·rename_i h;subst h;simp
   ·rename_i h
    rw[lookK_none (l:=r)]
    simp only[List.mem_cons,forall_eq_or_imp]
    exact⟨fun hh=>⟨Ne.symm h,hh⟩,fun hh=>hh.2⟩
theorem Ix {k:κ}{v:α}:∀ {l:KM κ α},(l.map (·.1)).Nodup→(An k l=some v↔(k,v)∈l)
 | [],_=>by simp[An]
 | (a,w)::r,nd=>by
   simp only[List.map_cons,List.nodup_cons]at nd
   unfold An
   by_cases h:k=a
   ·subst h
    rw[if_pos rfl]
    simp only[Option.some.injEq,List.mem_cons,Prod.mk.injEq,true_and]
    constructor
    ·intro h;exact .inl h.symm
    ·rintro (h|h)
     ·exact h.symm
     ·exact (nd.1 (List.mem_map.2 ⟨_,h,rfl⟩)).elim
   ·rw[if_neg h,Ix (l:=r) nd.2];simp[h]
theorem MM {a b:KM κ α}(na:(a.map (·.1)).Nodup) (nb:(b.map (·.1)).Nodup) (e:∀ x,x∈a↔x∈b):a.Perm b:=
 (List.perm_ext_iff_of_nodup (List.Pairwise.of_map _ (fun _ _ h e=>h (by rw[e])) na) (List.Pairwise.of_map _ (fun _ _ h e=>h (by rw[e])) nb)).2 e
end
instance kyS:Ky (List UInt8) where
 dec:=inferInstance
 lt:=(·<·)
 dlt:=inferInstance
 irr _:=List.lt_irrefl _
 trans:=List.lt_trans
 tri h1 h2:=Std.lt_of_le_of_ne (List.not_lt.1 h1) (Ne.symm h2)
 val k:=.string ⟨⟨k⟩⟩
 kd:=.string
 kok _:=rfl
 keq x y:=by
  show ((⟨x⟩:Array UInt8)==⟨y⟩)=decide (x=y)
  rw[Bool.eq_iff_iff,decide_eq_true_eq];simp
 one _:=rfl
instance kyI:Ky Int where
 dec:=inferInstance
 lt:=(·<·)
 dlt:=inferInstance
 irr _:=Int.lt_irrefl _
 trans:=Int.lt_trans
 tri h1 h2:=by omega
 val k:=.int .i64 k
 kd:=.int .i64
 kok _:=rfl
 keq x y:=by
  show (x==y)=decide (x=y)
  rw[Bool.eq_iff_iff,decide_eq_true_eq];simp
 one _:=rfl
def mE {κ α:Type}[Ky κ] (enc:α→AV) (es:List (κ×Nat×α)):fF:=es.map fun e=>(Ky.val e.1,e.2.1,enc e.2.2)
structure MapR {κ α:Type}[Ky κ] (enc:α→AV) (es:List (κ×Nat×α)) (n:Nat) (l:KM κ α):Prop where
 up:(es.map (·.2.1)).Pairwise (·<·)
 lt:∀ e∈es,e.2.1<n
 nd:(es.map (·.1)).Nodup
 eq:∀ x,x∈es.map (fun e=>(e.1,e.2.2))↔x∈l
 so:SoK l
def MapS {κ α:Type}[Ky κ] (enc:α→AV) (l:KM κ α) (o:AObj):Prop:=∃ (es:List (κ×Nat×α)) (n:Nat),o=.amap (mE enc es) n∧MapR enc es n l
theorem MapS.nil {κ α:Type}[Ky κ] (enc:α→AV):MapS enc ([]:KM κ α) (.amap [] 0):=⟨[],0,rfl,by simp,by simp,by simp,by simp,by simp[SoK]⟩
section
variable {κ α:Type}[Ky κ] {enc:α→AV}{es:List (κ×Nat×α)}{n:Nat}{l:KM κ α}
theorem MapR.kv (m:MapR enc es n l):((es.map (fun e=>(e.1,e.2.2))).map (·.1)).Nodup:=by rw[List.map_map];exact m.nd
theorem MapR.perm (m:MapR enc es n l):(es.map (fun e=>(e.1,e.2.2))).Perm l:=MM m.kv m.so.nd m.eq
theorem MapR.len (m:MapR enc es n l):es.length=l.length:=by have:=m.perm.length_eq;simpa using this
variable [Tabs]
theorem MG (k:κ):∀ (i:Nat) (es:List (κ×Nat×α)),(lq (Ky.val k) (mE enc es) i=none∧∀ e∈es,e.1≠k)∨∃ j,∃ hj:j<es.length,lq (Ky.val k) (mE enc es) i=some (i+j,es[j].2.1,enc es[j].2.2)∧es[j].1=k
 | i,[]=>.inl ⟨rfl,by simp⟩
 | i,(a,b,v)::r=>by
   unfold mE
   rw[List.map_cons,lq,Ky.keq]
   by_cases h:k=a
   ·subst h
    exact .inr ⟨0,by simp,by simp,rfl⟩
   ·rw[if_neg (by simpa using h)]
    rcases MG k (i+1) r with ⟨h1,h2⟩|⟨j,hj,h1,h2⟩
    ·exact .inl ⟨h1,by simpa using ⟨Ne.symm h,fun x y z=>h2 (x,y,z)⟩⟩
    ·exact .inr ⟨j+1,by simpa using hj,by unfold mE at h1;rw[h1];simp;omega,by simpa using h2⟩
theorem MapR.find (m:MapR enc es n l) (k:κ):(lq (Ky.val k) (mE enc es) 0=none∧An k l=none∧∀ e∈es,e.1≠k)∨∃ j,∃ hj:j<es.length,lq (Ky.val k) (mE enc es) 0=some (j,es[j].2.1,enc es[j].2.2)∧es[j].1=k∧An k l=some es[j].2.2:=by
 rcases MG (enc:=enc) k 0 es with ⟨h1,h2⟩|⟨j,hj,h1,h2⟩
 ·refine .inl ⟨h1,lookK_none.2 fun x hx=>?_,h2⟩
  obtain⟨e,he,rfl⟩:=List.mem_map.1 ((m.eq x).2 hx)
  exact h2 e he
 ·refine .inr ⟨j,hj,by simpa using h1,h2,?_⟩
  rw[Ix m.so.nd,← m.eq]
  exact List.mem_map.2 ⟨es[j],List.getElem_mem _,by rw[h2]⟩
theorem MapR.app (m:MapR enc es n l) {k:κ}{v:α}(hn:∀ e∈es,e.1≠k):MapR enc (es++[(k,n,v)]) (n+1) (Hl k v l) where
 up:=by
  rw[List.map_append,List.pairwise_append]
  refine⟨m.up,by simp,fun a ha b hb=>?_⟩
  obtain⟨e,he,rfl⟩:=List.mem_map.1 ha
  simp at hb;subst hb;exact m.lt e he
 lt e he:=by
  rcases List.mem_append.1 he with h|h
  ·have:=m.lt e h;omega
  ·simp at h;subst h;simp
 nd:=by
  rw[List.map_append,List.nodup_append]
  refine⟨m.nd,by simp,fun a ha b hb e=>?_⟩
  obtain⟨x,hx,rfl⟩:=List.mem_map.1 ha
  simp at hb;subst hb;exact hn x hx e
 eq x:=by
  rw[List.map_append,List.mem_append,m.eq,Bc m.so]
  simp only[List.map_cons,List.map_nil,List.mem_singleton]
  constructor
  ·rintro (h|h)
   ·obtain⟨e,he,rfl⟩:=List.mem_map.1 ((m.eq x).2 h)
    exact .inr ⟨h,hn e he⟩
   ·exact .inl h
  ·rintro (h|⟨h,_⟩)
   ·exact .inr h
   ·exact .inl h
 so:=Lk m.so
theorem W1 {β:Type}{l:List β}(nd:l.Nodup) {i j:Nat}(hi:i<l.length) (hj:j<l.length) (e:l[i]=l[j]):i=j:=by
 rw[List.nodup_iff_pairwise_ne,List.pairwise_iff_getElem]at nd
 rcases Nat.lt_trichotomy i j with h|h|h
 ·exact (nd i j hi hj h e).elim
 ·exact h
 ·exact (nd j i hj hi h e.symm).elim
theorem Uk {β:Type}{l:List β}{i:Nat}(hi:i<l.length) (nd:l.Nodup) (b x:β):x∈l.set i b↔x=b∨(x∈l∧x≠l[i]):=by
 constructor
 ·intro h
  obtain⟨j,hj,rfl⟩:=List.getElem_of_mem h
  rw[List.getElem_set]
  split
  ·exact .inl rfl
  ·rename_i hne
   rw[List.length_set]at hj
   exact .inr ⟨List.getElem_mem _,fun e=>hne (W1 nd hj hi e).symm⟩
 ·rintro (rfl|⟨h,hne⟩)
  ·exact List.mem_iff_getElem.2 ⟨i,by simpa using hi,by simp⟩
  ·obtain⟨j,hj,rfl⟩:=List.getElem_of_mem h
   refine List.mem_iff_getElem.2 ⟨j,by simpa using hj,?_⟩
   rw[List.getElem_set,if_neg]
   intro e;subst e;exact hne rfl
theorem MapR.set (m:MapR enc es n l) {k:κ}{v:α}{j:Nat}(hj:j<es.length) (hk:es[j].1=k):MapR enc (es.set j (k,es[j].2.1,v)) n (Hl k v l):=by
 have e1:(es.set j (k,es[j].2.1,v)).map (·.2.1)=es.map (·.2.1):=by rw[List.map_set];refine List.ext_getElem (by simp) fun i h1 h2=>?_;rw[List.getElem_set];split<;>simp_all
 have e2:(es.set j (k,es[j].2.1,v)).map (·.1)=es.map (·.1):=by rw[List.map_set];refine List.ext_getElem (by simp) fun i h1 h2=>?_;rw[List.getElem_set];split<;>simp_all
 refine⟨by rw[e1];exact m.up,fun e he=>?_,by rw[e2];exact m.nd,fun x=>?_,Lk m.so⟩
 ·have:e.2.1∈(es.set j (k,es[j].2.1,v)).map (·.2.1):=List.mem_map_of_mem he
  rw[e1]at this
  obtain⟨x,hx,he⟩:=List.mem_map.1 this
  rw[← he];exact m.lt x hx
 ·rw[List.map_set,Bc m.so,← m.eq]
  have nd:(es.map (fun e=>(e.1,e.2.2))).Nodup:=List.Pairwise.of_map _ (fun _ _ h e=>h (by rw[e])) m.kv
  rw[Uk (by simpa using hj) nd]
  refine or_congr Iff.rfl (and_congr_right fun hx=>not_congr ?_)
  rw[List.getElem_map]
  constructor
  ·intro h;rw[h];exact hk
  ·intro h
   obtain⟨q,hq,rfl⟩:=List.getElem_of_mem hx
   rw[List.length_map]at hq
   simp only[List.getElem_map]at h ⊢
   have:=W1 m.nd (i:=q) (j:=j) (by simpa using hq) (by simpa using hj) (by simp[h,hk])
   subst this;rfl
variable {h0 h:ae}{M:List Nat}{L L':Own}{K:AV→Prop}{KH:QT}{KL':ae→Prop}
theorem MapS.put {o:AObj}(m:MapS enc l o) (k:κ) (v:α):∃ (es:List (κ×Nat×α)) (n:Nat),o=.amap (mE enc es) n∧MapS enc (Hl k v l) (MT (Ky.val k) (enc v) n (mE enc es)):=by
 obtain⟨es,n,rfl,r⟩:=m
 refine⟨es,n,rfl,?_⟩
 unfold MT
 rcases r.find k with ⟨h1,h2,h3⟩|⟨j,hj,h1,h2,h3⟩
 ·rw[h1];exact⟨_,_,by simp[mE],r.app h3⟩
 ·rw[h1];exact⟨_,_,by simp[mE,List.map_set],r.set hj h2⟩
end
section
variable [Tabs]
variable {α:Type}{enc:α→AV}{h0 h:ae}{M:List Nat}{L L':Own}{K:AV→Prop}{KS':ae→Prop}
end
end
end Go.Proofs.YtbhphjpgjgigpaaGreatDoor.AL
namespace Go.Proofs.YtbhphjpgjgigpaaGreatDoor.AL
noncomputable section
open Go.RowKit Go.Maps Go.Sort Go.Shelf Go.WideElems Go.WideShapes
open Go.Proofs (encStr)
variable [Tabs]
section
variable {P:Program}
end
end
end Go.Proofs.YtbhphjpgjgigpaaGreatDoor.AL
namespace Go.Proofs.YtbhphjpgjgigpaaGreatDoor.AL
noncomputable section
structure Rq where
 kind:Int
 name:Str
 text:Str
 value:Int
section
variable [Tabs]
variable {h0 h:ae}{M:List Nat}{L R:Own}{K:AV→Prop}{Q:QT}
end
end
end Go.Proofs.YtbhphjpgjgigpaaGreatDoor.AL
namespace Go.Proofs.YtbhphjpgjgigpaaGreatDoor.AL
noncomputable section
section
variable [Tabs]
variable {h0 h:ae}{M:List Nat}{L R:Own}{K:AV→Prop}{Q:QT}
def Ov (i:Nat) (n:Nat):Bool:=(decide (97≤n∧n≤122)||decide (n=95))||(decide (0<i)&&bu n)
def dgB (i:Nat) (n:Nat) (d:Bool):Bool:=if 0<i∧bu n=false then false else d
theorem V3 {x:AV}{i n:Nat}{d e:Bool}(hi:i≤12) (he:e=bu n) {nx:NT}(k:nx [x,B (dgB i n d),I ((i+1:Nat):Int)] h):jq [x,B d,I (i:Nat)] (B e) h nx:=by
 unfold jq
 unfold dgB at k
 subst he
 (repeat refine bx ?_)
 refine ah (fun h1=>?_) (fun h1=>?_)<;>simp only[za,zb,zc,zd,ze,zf,zg,zh,zi,u8i,zj,zk,zl]at h1
 ·(repeat refine bQ ?_)
  unfold uV
  cases hp:bu n
  ·rw[if_pos ⟨by omega,hp⟩]at k
   unfold hH o9
   exact aI (by omega) k
  ·rw[if_neg (by simp[hp])]at k
   unfold hH o9
   exact aI (by omega) k
 ·rw[if_neg (by omega)]at k
  unfold hH o9
  exact aI (by omega) k
theorem abe {x:AV}{i n:Nat}{c:UInt8}{d e a:Bool}(hn:n=c.toNat) (hi:i≤12) (he:e=bu n) (ha:a=!decide (97≤n∧n≤122)) {nx:NT}
  (k:if Ov i n then nx [x,B (dgB i n d),I ((i+1:Nat):Int)] h else Q (B false) h):lU (B a) (.lit (.int .u8 n)) [x,B d,I (i:Nat)] Q h (B e) nx:=by
 unfold lU
 subst ha
 unfold Ov at k
 by_cases h1:97≤n∧n≤122
 ·rw[if_pos (by simp[h1])]at k
  rw[decide_eq_true h1]
  exact V3 hi he k
 ·rw[decide_eq_false h1]
  (repeat refine cg ?_)
  refine ah (fun h2=>?_) (fun h2=>?_)<;>simp only[za,zb,zc,zd,ze,zf,zg,zh,zi,u8i,zj,zk,zl]at h2
  ·(repeat refine aA ?_)
   refine ah (fun h3=>?_) (fun h3=>?_)<;>simp only[za,zb,zc,zd,ze,zf,zg,zh,zi,u8i,zj,zk,zl]at h3
   ·skip
    rw[if_neg (by simp[h1];omega)]at k
    exact k
   ·(repeat refine bQ ?_)
    subst he
    cases hp:bu n
    ·rw[if_neg (by simp[h1,hp];omega)]at k
     exact k
    ·rw[if_pos (by simp[hp];omega)]at k
     have:=V3 (x:=x) (d:=d) hi hp.symm k
     exact this
  ·rw[if_pos (by simp;omega)]at k
   exact V3 hi he k
theorem aa1 {x:AV}{s:Str}{i:Nat}{d:Bool}(hi:i<s.length) (hl:s.length≤12) {nx:NT}
  (k:if Ov i s[i].toNat then nx [x,B (dgB i s[i].toNat d),I ((i+1:Nat):Int)] h else Q (B false) h):g8 (T s) Q [x,B d,I (i:Nat)] h nx:=by
 unfold g8
 (repeat (first|refine bf ?_|refine aJ ?_))
 refine ah (fun h1=>?_) (fun h1=>?_)<;>simp only[za,zb,zc,zd,ze,zf,zg,zh,zi,u8i,zj,zk,zl]at h1
 ·refine bP hi ?_
  have hn:∀ {e a:Bool},e=bu s[i].toNat→a=!decide (97≤s[i].toNat∧s[i].toNat≤122)→lU (B a) (U8 s[i]) [x,B d,I (i:Nat)] Q h (B e) nx:=fun he ha=>abe rfl (by omega) he ha k
  have q1:∀ p q:Bool,(p=true↔q=true)→p=q:=fun p q=>Bool.eq_iff_iff.2
  refine bL ?_
  refine ah (fun h2=>?_) (fun h2=>?_)<;>simp only[za,zb,zc,zd,ze,zf,zg,zh,zi,u8i,zj,zk,zl]at h2
  ·refine fl (bL ?_)
   refine ah (fun h3=>?_) (fun h3=>?_)<;>simp only[za,zb,zc,zd,ze,zf,zg,zh,zi,u8i,zj,zk,zl]at h3
   ·refine fl (bQ ?_)
    exact hn (q1 _ _ (by simp[bu];omega)) (q1 _ _ (by simp;omega))
   ·refine bQ ?_
    exact hn (q1 _ _ (by simp[bu];omega)) (q1 _ _ (by simp;omega))
  ·refine bL ?_
   refine ah (fun h3=>?_) (fun h3=>?_)<;>simp only[za,zb,zc,zd,ze,zf,zg,zh,zi,u8i,zj,zk,zl]at h3
   ·refine fl (bQ ?_)
    exact hn (e:=false) (q1 _ _ (by simp[bu];omega)) (q1 _ _ (by simp;omega))
   ·refine bQ ?_
    exact hn (e:=false) (q1 _ _ (by simp[bu];omega)) (q1 _ _ (by simp;omega))
 ·omega
theorem Z0 {x:AV}{s:Str}{d:Bool}{nx:NT}(k:Q (B (!d)) h):g8 (T s) Q [x,B d,I (s.length:Nat)] h nx:=by
 unfold g8
 (repeat (first|refine bf ?_|refine aJ ?_))
 refine ah (fun h1=>?_) (fun h1=>?_)<;>simp only[za,zb,zc,zd,ze,zf,zg,zh,zi,u8i,zj,zk,zl]at h1
 ·omega
 ·(repeat refine bQ ?_)
  exact k
def r3F:Str→Nat→Bool→Bool
 | [],_,d=>!d
 | c::t,i,d=>if Ov i c.toNat then r3F t (i+1) (dgB i c.toNat d) else false
theorem UX:∀ (t:Str) (i:Nat) (d:Bool),0<i→r3F t i d=(t.all (fun c=>df c.toNat)&&!(d&&t.all fun c=>bu c.toNat))
 | [],i,d,_=>by simp[r3F]
 | c::t,i,d,h=>by
   unfold r3F
   have e:Ov i c.toNat=df c.toNat:=by
    unfold Ov df wv bu
    rw[Bool.eq_iff_iff];simp[h];try omega
   rw[e,UX t (i+1) _ (by omega)]
   unfold dgB
   simp only[List.all_cons]
   cases df c.toNat<;>cases hp:bu c.toNat<;>simp[h,hp]
theorem WH (c:UInt8) (t:Str) (hl:(c::t).length≤12):r3F (c::t) 0 (decide (c=114)&&decide (t.length > 0))=kN (c::t):=by
 unfold r3F kN
 rw[UX t 1 _ (by omega),decide_eq_true hl]
 have e:Ov 0 c.toNat=(!bu c.toNat&&df c.toNat):=by
  unfold Ov df wv bu
  rw[Bool.eq_iff_iff];simp;try omega
 have e2:dgB 0 c.toNat (decide (c=114)&&decide (t.length > 0))=(decide (c=114)&&decide (t.length > 0)):=by unfold dgB;simp
 rw[e,e2]
 simp only[List.all_cons]
 cases t with
 | nil=>cases bu c.toNat<;>cases df c.toNat<;>simp
 | cons b t=>by_cases h:c=114<;>cases bu c.toNat<;>cases df c.toNat<;>simp[h]
theorem MJ (s:Str) (hs:s.length<4611686018427387904) (k:Q (B (kN s)) h):C lO [T s] h Q:=by
 refine Ll _ _ _ ?_
 unfold IP
 (repeat (first|refine bf ?_|refine aJ ?_))
 refine ah (fun h1=>?_) (fun h1=>?_)<;>simp only[za,zb,zc,zd,ze,zf,zg,zh,zi,u8i,zj,zk,zl]at h1
 ·match s,h1 with
  | [],_=>exact k
  | c::t,h1=>simp at h1;omega
 ·(repeat (first|refine bf ?_|refine bx ?_))
  refine ah (fun h2=>?_) (fun h2=>?_)<;>simp only[za,zb,zc,zd,ze,zf,zg,zh,zi,u8i,zj,zk,zl]at h2
  ·match s,h1 with
   | c::t,_=>
     have:kN (c::t)=false:=by unfold kN;rw[decide_eq_false (by omega)];rfl
     rw[this]at k;exact k
  ·match s,h1 with
   | c::t,_=>
     have hl:(c::t).length≤12:=by omega
     have go:∀ d:Bool,d=(decide (c=114)&&decide (t.length > 0))→bZ [B false,B d,I 0] h fun vs h nx=>g8 (T (c::t)) Q vs h nx:=fun d hd=>by
      refine aP (fun n vs h'=>∃ (i:Nat) (d:Bool),vs=[B false,B d,I (i:Nat)]∧h'=h∧n+i=(c::t).length∧r3F ((c::t).drop i) i d=kN (c::t)) (c::t).length ⟨0,d,rfl,rfl,rfl,by rw[hd];exact WH c t hl⟩ ?_
      rintro n vs h' ⟨i,d,rfl,rfl,hn,hr⟩
      by_cases hi:i<(c::t).length
      ·refine aa1 hi hl ?_
       rw[List.drop_eq_getElem_cons hi]at hr
       unfold r3F at hr
       split
       ·rename_i hf
        rw[if_pos hf]at hr
        exact⟨n-1,by omega,i+1,_,rfl,rfl,by omega,hr⟩
       ·rename_i hf
        rw[if_neg hf]at hr
        rw[← hr]at k;exact k
      ·obtain rfl:i=(c::t).length:=by omega
       rw[List.drop_length]at hr
       unfold r3F at hr
       rw[← hr]at k
       exact Z0 k
     refine bP (i:=0) (by simp) ?_
     (repeat refine aA ?_)
     have e0:(c::t)[0].toNat=c.toNat:=rfl
     have ec:c.toNat=114↔c=114:=⟨fun h=>by rw[← UInt8.ofNat_toNat (x:=c),h];rfl,fun h=>by rw[h];rfl⟩
     refine ah (fun h3=>?_) (fun h3=>?_)<;>simp only[za,zb,zc,zd,ze,zf,zg,zh,zi,u8i,zj,zk,zl]at h3
     ·(repeat (first|refine bf ?_|refine bx ?_))
      rw[e0]at h3
      have h4:c=114:=ec.1 (by omega)
      refine go _ ?_
      rw[decide_eq_true h4,Bool.true_and]
      rw[Bool.eq_iff_iff];simp
      omega
     ·rw[e0]at h3
      have h4:¬ c=114:=fun h=>h3 (by have:=ec.2 h;omega)
      exact go _ (by rw[decide_eq_false h4,Bool.false_and])
end
end
end Go.Proofs.YtbhphjpgjgigpaaGreatDoor.AL
namespace Go.Proofs.YtbhphjpgjgigpaaGreatDoor.AL
noncomputable section
theorem R7 {c:UInt8}{n:Nat}(hn:n<256):((c.toNat:Int)=(n:Int))↔c=UInt8.ofNat n:=by
 constructor
 ·intro h
  have:c.toNat=n:=by omega
  rw[← this,UInt8.ofNat_toNat]
 ·rintro rfl
  have:(UInt8.ofNat n).toNat=n:=by simp;omega
  rw[this]
theorem AF {s:Str}{p:Nat}(h:p<s.length):s.drop p=s[p]::s.drop (p+1):=List.drop_eq_getElem_cons h
section
variable [Tabs]
abbrev rO (s:Str) (p d:Nat) (b:Bool):AObj:=.cells [T s,I (p:Nat),I (d:Nat),B b]
variable {h:ae}{Q:QT}{i d p:Nat}{s:Str}{b:Bool}
theorem LC (hs:s.length<1000000000) (e:h[i]?=some (rO s p d b)) (hp:p≤s.length) (k:∀ p' h',p'≤s.length→s.drop p'=blk (s.drop p)→Fr [i] h h'→h'[i]?=some (rO s p' d b)→Q (.tup []) h'):C gd [.ptr i 0] h Q:=by
 refine x7 _ _ _ ?_
 unfold sQ
 refine aP (fun n vs h'=>∃ q,vs=[]∧n+q=s.length∧blk (s.drop q)=blk (s.drop p)∧Fr [i] h h'∧h'[i]?=some (rO s q d b)) (s.length-p) ⟨p,rfl,by omega,rfl,Fr.refl _ _,e⟩ ?_
 rintro n vs h1 ⟨q,rfl,hn,hq,f1,e1⟩
 unfold oE
 have st:=St.start1 e1
 (repeat (first|refine aw ?_|refine aj ?_|refine bf ?_|refine aJ ?_|refine af ‹_› (.head _) rfl ?_))
 refine ah (fun b1=>?_) (fun b1=>?_)<;>simp only[za,zb,zc,zd,ze,zf,zg,zh,zi,u8i,zj,zk,zl]at b1
 ·(repeat (first|refine aw ?_|refine aj ?_|refine af ‹_› (.head _) rfl ?_))
  refine bP (by omega) ?_
  refine aA ?_
  have hd:=AF (s:=s) (p:=q) (by omega)
  refine ah (fun b2=>?_) (fun b2=>?_)
  ·have b2:s[q]=32:=(R7 (n:=32) (by decide)).1 (of_decide_eq_true b2)
   (repeat (first|refine aw ?_|refine aj ?_|refine aI (by omega) ?_|refine af ‹_› (.head _) rfl ?_))
   refine ay st .head rfl rfl rfl (nle rfl) fun h2 s2=>?_
   refine⟨n-1,by omega,q+1,rfl,by omega,?_,f1.trans s2.fr (by simp),s2.get (.head _)⟩
   rw[← hq,hd,b2];rfl
  ·have b2:¬ s[q]=32:=fun h=>of_decide_eq_false b2 ((R7 (n:=32) (by decide)).2 h)
   refine k q h1 (by omega) ?_ f1 e1
   rw[← hq,hd]
   show _=ia 32 _
   unfold ia
   rw[if_neg b2]
 ·refine k q h1 (by omega) ?_ f1 e1
  rw[← hq,List.drop_of_length_le (by omega)];rfl
theorem Fb {m:Str}(hm:m.length<1000) (hs:s.length<1000000000) (e:h[i]?=some (rO s p d b)) (hp:p≤s.length)
  (k1:m.isPrefixOf (blk (s.drop p))=true→∀ p' h',p'≤s.length→s.drop p'=(blk (s.drop p)).drop m.length→Fr [i] h h'→h'[i]?=some (rO s p' d b)→Q (B true) h')
  (k0:m.isPrefixOf (blk (s.drop p))=false→∀ p' h',p'≤s.length→s.drop p'=blk (s.drop p)→Fr [i] h h'→h'[i]?=some (rO s p' d b)→Q (B false) h'):C cR [.ptr i 0,T m] h Q:=by
 refine Bu _ _ _ _ ?_
 unfold wH
 refine LC hs e hp fun q h1 hq hd f1 e1=>?_
 have st:=St.start1 e1
 rw[← hd]at k1 k0
 have hlen:(s.drop q).length=s.length-q:=List.length_drop
 (repeat (first|refine aw ?_|refine aj ?_|refine bf ?_|refine bx ?_|refine aI (by omega) ?_|refine af ‹_› (.head _) rfl ?_))
 refine ah (fun b1=>?_) (fun b1=>?_)<;>simp only[za,zb,zc,zd,ze,zf,zg,zh,zi,u8i,zj,zk,zl]at b1
 ·refine k0 ?_ q h1 hq rfl f1 e1
  cases hx:m.isPrefixOf (s.drop q) with
  | false=>rfl
  | true=>
    have:=(List.isPrefixOf_iff_prefix.1 hx).length_le
    omega
 ·(repeat (first|refine aw ?_|refine aj ?_|refine bf ?_|refine aI (by omega) ?_|refine af ‹_› (.head _) rfl ?_))
  refine F2 (by omega) (by omega) (by omega) ?_
  have ht:(s.drop ((q:Int)).toNat).take (((q:Int)+(m.length:Nat)).toNat-((q:Int)).toNat)=(s.drop q).take m.length:=by
   rw[Int.toNat_natCast,show ((q:Int)+(m.length:Nat)).toNat-q=m.length by omega]
  rw[ht]
  refine pU ?_
  refine ah (fun b2=>?_) (fun b2=>?_)
  ·refine k0 ?_ q h1 hq rfl f1 e1
   cases hx:m.isPrefixOf (s.drop q) with
   | false=>rfl
   | true=>
     have:=List.isPrefixOf_iff_prefix.1 hx
     rw[List.prefix_iff_eq_take]at this
     simp[← this]at b2
  ·have hx:m.isPrefixOf (s.drop q)=true:=by
    rw[List.isPrefixOf_iff_prefix,List.prefix_iff_eq_take]
    exact (by simpa using b2:_=_).symm
   (repeat (first|refine aw ?_|refine aj ?_|refine bf ?_|refine aI (by omega) ?_|refine af ‹_› (.head _) rfl ?_))
   refine ay st .head rfl rfl rfl (nle rfl) fun h2 s2=>?_
   refine k1 hx (q+m.length) h2 (by omega) (by rw[List.drop_drop]) (f1.trans s2.fr (by simp)) ?_
   have:=s2.get (.head _)
   rw[this]
   show some (AObj.cells [T s,I ((q:Int)+(m.length:Nat)),I (d:Nat),B b])=_
   rw[show ((q:Int)+(m.length:Nat))=((q+m.length:Nat):Int) by omega]
def mh (base:Nat) (c:UInt8):Bool:=if base=16 then vp c.toNat else bu c.toNat
theorem zG {base:Nat}(hb:base=10∨base=16) (c:UInt8) (k:Q (I (if mh base c=true then (oc c:Nat) else -1)) h):C j9 [U8 c,I (base:Nat)] h Q:=by
 refine Hu _ _ _ _ ?_
 unfold Gg
 have hc:=c.toNat_lt
 have cv97:97≤c.toNat→IntKind.i64.wrap (IntKind.u8.wrap ((c.toNat:Int)-97))=((c.toNat-97:Nat):Int):=fun hm=>by
  have:IntKind.u8.wrap ((c.toNat:Int)-97)=((c.toNat-97:Nat):Int):=by rw[IntKind.wrap_u8];omega
  rw[this];exact sY (by omega)
 have cv48:48≤c.toNat→IntKind.i64.wrap (IntKind.u8.wrap ((c.toNat:Int)-48))=((c.toNat-48:Nat):Int):=fun hm=>by
  have:IntKind.u8.wrap ((c.toNat:Int)-48)=((c.toNat-48:Nat):Int):=by rw[IntKind.wrap_u8];omega
  rw[this];exact sY (by omega)
 have let16:base=16→¬ (48≤c.toNat∧c.toNat≤57)→(ai .geq (U8 c) (.lit (.int .u8 97)) fun t20=>ifB t20 (ai .leq (U8 c) (.lit (.int .u8 102)) fun t24=>ifB t24 (
   ai .sub (U8 c) (.lit (.int .u8 97)) fun t27=>ci .i64 t27 fun t28=>ai .add t28 (I 10) fun t29=>Q t29 h) (Q (I (-1)) h)) (Q (I (-1)) h)):=fun h16 hnd=>by
  refine bL ?_
  refine ah (fun b1=>?_) (fun b1=>?_)<;>simp only[za,zb,zc,zd,ze,zf,zg,zh,zi,u8i,zj,zk,zl]at b1
  ·refine fl ?_
   refine ah (fun b2=>?_) (fun b2=>?_)<;>simp only[za,zb,zc,zd,ze,zf,zg,zh,zi,u8i,zj,zk,zl]at b2
   ·refine Ea (d7 ?_)
    rw[cv97 (by omega)]
    refine aI (by omega) ?_
    have hp:mh base c=true:=by unfold mh vp bu;rw[if_pos h16];simp;omega
    rw[if_pos hp]at k
    have hv:oc c=c.toNat-97+10:=by unfold oc;rw[if_pos (by omega)]
    rw[hv]at k
    rw[show ((c.toNat-97:Nat):Int)+10=((c.toNat-97+10:Nat):Int) by omega]
    exact k
   ·have hp:¬ mh base c=true:=by unfold mh vp bu;rw[if_pos h16];simp;omega
    rw[if_neg hp]at k
    exact k
  ·have hp:¬ mh base c=true:=by unfold mh vp bu;rw[if_pos h16];simp;omega
   rw[if_neg hp]at k
   exact k
 have rest:¬ (48≤c.toNat∧c.toNat≤57)→(ai .eql (I (base:Nat)) (I 16) fun t17=>ifB t17 (ai .geq (U8 c) (.lit (.int .u8 97)) fun t20=>ifB t20 (ai .leq (U8 c) (.lit (.int .u8 102)) fun t24=>ifB t24 (
   ai .sub (U8 c) (.lit (.int .u8 97)) fun t27=>ci .i64 t27 fun t28=>ai .add t28 (I 10) fun t29=>Q t29 h) (Q (I (-1)) h)) (Q (I (-1)) h)) (Q (I (-1)) h)):=fun hnd=>by
  refine aA ?_
  refine ah (fun b0=>?_) (fun b0=>?_)<;>simp only[za,zb,zc,zd,ze,zf,zg,zh,zi,u8i,zj,zk,zl]at b0
  ·exact let16 (by omega) hnd
  ·have hp:¬ mh base c=true:=by unfold mh bu;rw[if_neg (by omega)];simp;omega
   rw[if_neg hp]at k
   exact k
 refine bL ?_
 refine ah (fun b1=>?_) (fun b1=>?_)<;>simp only[za,zb,zc,zd,ze,zf,zg,zh,zi,u8i,zj,zk,zl]at b1
 ·refine fl ?_
  refine ah (fun b2=>?_) (fun b2=>?_)<;>simp only[za,zb,zc,zd,ze,zf,zg,zh,zi,u8i,zj,zk,zl]at b2
  ·refine Ea (d7 ?_)
   rw[cv48 (by omega)]
   have hp:mh base c=true:=by unfold mh vp bu;split<;>simp<;>omega
   rw[if_pos hp]at k
   have hv:oc c=c.toNat-48:=by unfold oc;rw[if_neg (by omega)]
   rw[hv]at k
   exact k
  ·exact rest (by omega)
 ·exact rest (by omega)
end
end
end Go.Proofs.YtbhphjpgjgigpaaGreatDoor.AL
namespace Go.Proofs.YtbhphjpgjgigpaaGreatDoor.AL
noncomputable section
section
variable [Tabs]
variable {h:ae}{Q:QT}{i D p:Nat}{s:Str}{b:Bool}
structure RRes (i:Nat) (s:Str) (D:Nat) (m:Option (Ex×Str)) (h:ae) (Q:QT):Prop where
 good:∀ x p' h',p'≤s.length→m=some (x,s.drop p')→Fr [i] h h'→h'[i]?=some (rO s p' D false)→Q (.agg (bq x)) h'
 bad:∀ cs p' h',p'≤s.length→m=none→Fr [i] h h'→h'[i]?=some (rO s p' D true)→cs.length=4→cs.all AV.one=true→Q (.agg cs) h'
def uP (base:Nat) (l:Str):Str:=l.takeWhile (mh base)
def yW (base:Nat):PF:=fun l=>if uP base l=[] then none else match pN base (uP base l) 0 with
 | none=>none
 | some n=>some (.num n,l.drop (uP base l).length)
theorem QZ {base q:Nat}(hq:q<s.length):uP base (s.drop q)=if mh base s[q]=true then s[q]::uP base (s.drop (q+1)) else []:=by
 unfold uP
 rw[AF hq,List.takeWhile_cons]
theorem DA {base:Nat}(hb:base=10∨base=16) (hs:s.length<1000000000) (hp:p≤s.length) (e:h[i]?=some (rO s p D false)) (r:RRes i s D (yW base (s.drop p)) h Q):C fb [.ptr i 0,I (base:Nat)] h Q:=by
 refine vo _ _ _ _ ?_
 unfold pP
 refine aQ (St.start1 e) fun q4 h1 s1=>?_
 (repeat (first|refine aw ?_|refine aj ?_|refine af ‹_› (by first|exact .head _|exact .tail _ (.head _)) rfl ?_))
 refine aP (fun n vs h'=>∃ (q m:Nat),vs=[I (m:Nat)]∧m<4294967296∧n+q=s.length∧p≤q∧(uP base (s.drop q)).length+q=(uP base (s.drop p)).length+p∧pN base (uP base (s.drop q)) m=pN base (uP base (s.drop p)) 0∧St h [i] h' [(q4,true,.cells zE),(i,true,rO s q D false)]) (s.length-p) ⟨p,0,rfl,by omega,by omega,Nat.le_refl _,rfl,rfl,s1⟩ ?_
 rintro n vs h2 ⟨q,m,rfl,hm,hn,hpq,hlen,hnum,s2⟩
 unfold mr
 have fin:uP base (s.drop q)=[]→fc (.ptr i 0) h2 (I (p:Nat)) [I (m:Nat)] (.ptr q4 0) Q:=fun hd=>by
  unfold fc
  rw[hd]at hlen hnum
  have hnum:pN base (uP base (s.drop p)) 0=some m:=hnum.symm
  simp only[List.length_nil,Nat.zero_add]at hlen
  have hq:q≤s.length:=by omega
  refine aw (aj (af s2 (.tail _ (.head _)) rfl (aA ?_)))
  refine ah (fun b1=>?_) (fun b1=>?_)<;>simp only[za,zb,zc,zd,ze,zf,zg,zh,zi,u8i,zj,zk,zl]at b1
  ·have he:uP base (s.drop p)=[]:=List.length_eq_zero_iff.1 (by omega)
   have hm0:yW base (s.drop p)=none:=by unfold yW;rw[if_pos he]
   refine aw (aj ?_)
   refine ay (o:=0+3) s2 (.tail .head) rfl rfl rfl (nle rfl) fun h3 s3=>?_
   unfold eG
   refine aD rfl ?_
   refine aM s3 bd rfl rfl .head fun h4 s4=>?_
   refine aK s4 rfl (.head _) ?_
   exact r.bad _ q _ hq hm0 s4.fr (s4.get (.tail _ (.head _))) rfl rfl
  ·have he:¬ uP base (s.drop p)=[]:=fun h=>by rw[h]at hlen;simp at hlen;omega
   have hm0:yW base (s.drop p)=some (.num m,s.drop q):=by
    unfold yW;rw[if_neg he,hnum,List.drop_drop]
    simp only;congr 3;omega
   unfold eG
   refine aD rfl ?_
   refine aM s2 bd rfl rfl .head fun h4 s4=>?_
   refine aK s4 rfl (.head _) ?_
   exact r.good (.num m) q _ hq hm0 s4.fr (s4.get (.tail _ (.head _)))
 (repeat (first|refine aw ?_|refine aj ?_|refine bf ?_|refine aJ ?_|refine af ‹_› (by first|exact .head _|exact .tail _ (.head _)) rfl ?_))
 refine ah (fun b1=>?_) (fun b1=>?_)<;>simp only[za,zb,zc,zd,ze,zf,zg,zh,zi,u8i,zj,zk,zl]at b1
 ·have hq:q<s.length:=by omega
  have hd:=QZ (base:=base) hq
  refine aw (aj (af s2 (.tail _ (.head _)) rfl (aw (aj (af s2 (.tail _ (.head _)) rfl (bP hq ?_))))))
  refine zG hb s[q] ?_
  refine bL ?_
  refine ah (fun b2=>?_) (fun b2=>?_)<;>simp only[za,zb,zc,zd,ze,zf,zg,zh,zi,u8i,zj,zk,zl]at b2
  ·have hpb:mh base s[q]=true:=by
    cases hx:mh base s[q] with
    | true=>rfl
    | false=>rw[hx]at b2;simp at b2
   rw[if_pos hpb]at hd
   rw[hd,List.length_cons]at hlen
   rw[hd,pN]at hnum
   have hbm:((base:Nat):Int)*(m:Nat)=((m*base:Nat):Int):=by rw[Int.mul_comm];simp
   have hdv:=EW (base:=base) (by omega) s[q] m hm
   have hdl:oc s[q]<1000:=by have:=s[q].toNat_lt;unfold oc;split<;>omega
   refine uH (by rw[hbm];omega) ?_
   rw[hbm]
   refine aw (aj (af s2 (.tail _ (.head _)) rfl (aw (aj (af s2 (.tail _ (.head _)) rfl (bP hq ?_))))))
   refine zG hb s[q] ?_
   rw[if_pos hpb]
   refine aI (by omega) ?_
   rw[show ((m*base:Nat):Int)+(oc s[q]:Nat)=((m*base+oc s[q]:Nat):Int) by omega]
   refine aw (aj (af s2 (.tail _ (.head _)) rfl (aI (by omega) (aw (aj ?_)))))
   refine ay (o:=0+1) s2 (.tail .head) rfl rfl rfl (nle rfl) fun h3 s3=>?_
   have s3:St h [i] h3 [(q4,true,.cells zE),(i,true,rO s (q+1) D false)]:=s3
   refine bL ?_
   refine ah (fun b3=>?_) (fun b3=>?_)<;>simp only[za,zb,zc,zd,ze,zf,zg,zh,zi,u8i,zj,zk,zl]at b3
   ·rw[if_pos (by omega)]at hnum
    have hm0:yW base (s.drop p)=none:=by
     unfold yW;rw[← hnum];split<;>rfl
    refine aw (aj ?_)
    refine ay (o:=0+3) s3 (.tail .head) rfl rfl rfl (nle rfl) fun h4 s4=>?_
    refine aD rfl ?_
    refine aM s4 bd rfl rfl .head fun h5 s5=>?_
    refine aK s5 rfl (.head _) ?_
    exact r.bad _ (q+1) _ (by omega) hm0 s5.fr (s5.get (.tail _ (.head _))) rfl rfl
   ·rw[if_neg (by omega)]at hnum
    exact⟨n-1,by omega,q+1,m*base+oc s[q],rfl,by omega,by omega,by omega,by omega,hnum,s3⟩
  ·have hpb:¬ mh base s[q]=true:=fun h=>by rw[if_pos h]at b2;omega
   rw[if_neg hpb]at hd
   exact fin hd
 ·refine fin ?_
  rw[List.drop_of_length_le (by omega)];rfl
def EE:PF:=fun l=>if kN (fP l)=true then some (.name (fP l),l.drop (fP l).length) else none
theorem SB {q:Nat}(hq:q<s.length):fP (s.drop q)=if df s[q].toNat=true then s[q]::fP (s.drop (q+1)) else []:=by
 unfold fP
 rw[AF hq,List.takeWhile_cons]
theorem I5 (hs:s.length<1000000000) (hp:p≤s.length) (e:h[i]?=some (rO s p D false)) (r:RRes i s D (EE (s.drop p)) h Q):C fW [.ptr i 0] h Q:=by
 refine xZ _ _ _ ?_
 unfold tt
 refine aQ (St.start1 e) fun q4 h1 s1=>?_
 (repeat (first|refine aw ?_|refine aj ?_|refine af ‹_› (by first|exact .head _|exact .tail _ (.head _)) rfl ?_))
 refine aP (fun n vs h'=>∃ q:Nat,vs=[]∧n+q=s.length∧p≤q∧(fP (s.drop q)).length+q=(fP (s.drop p)).length+p∧St h [i] h' [(q4,true,.cells zE),(i,true,rO s q D false)]) (s.length-p) ⟨p,rfl,by omega,Nat.le_refl _,rfl,s1⟩ ?_
 rintro n vs h2 ⟨q,rfl,hn,hpq,hlen,s2⟩
 unfold mG
 have fin:fP (s.drop q)=[]→fZ (.ptr i 0) h2 (I (p:Nat)) (.ptr q4 0) Q:=fun hd=>by
  unfold fZ
  rw[hd]at hlen
  simp only[List.length_nil,Nat.zero_add]at hlen
  have hq:q≤s.length:=by omega
  have hw:(s.drop ((p:Nat):Int).toNat).take (((q:Nat):Int).toNat-((p:Nat):Int).toNat)=fP (s.drop p):=by
   simp only[Int.toNat_natCast]
   have hpre:fP (s.drop p) <+: s.drop p:=List.takeWhile_prefix _
   rw[List.prefix_iff_eq_take]at hpre
   rw[hpre];congr 1;omega
  refine aw (aj (af s2 (.tail _ (.head _)) rfl (aw (aj (af s2 (.tail _ (.head _)) rfl (F2 (by omega) (by omega) (by omega) ?_))))))
  rw[hw]
  refine MJ _ (by have:=(List.takeWhile_sublist (fun c:UInt8=>df c.toNat) (l:=s.drop p)).length_le;unfold fP;simp at this ⊢;omega) ?_
  refine bQ ?_
  have tail:∀ (b:Bool) (h3:ae),St h [i] h3 [(q4,true,.cells zE),(i,true,rO s q D b)]→(∀ h',St h [i] h' [(q4,true,.cells (bq (.name (fP (s.drop p))))),(i,true,rO s q D b)]→Q (.agg (bq (.name (fP (s.drop p))))) h')→cn (I (p:Nat)) (.ptr q4 0) (.ptr i 0) h3 Q:=fun b h3 s3 k=>by
   unfold cn
   refine aw (aj (af s3 (.tail _ (.head _)) rfl (aw (aj (af s3 (.tail _ (.head _)) rfl (F2 (by omega) (by omega) (by omega) ?_))))))
   rw[hw]
   refine aD rfl ?_
   refine aM s3 bd rfl rfl .head fun h4 s4=>?_
   refine aK s4 rfl (.head _) ?_
   exact k _ s4
  refine ah (fun b1=>?_) (fun b1=>?_)<;>simp only[za,zb,zc,zd,ze,zf,zg,zh,zi,u8i,zj,zk,zl]at b1
  ·have hm0:EE (s.drop p)=none:=by unfold EE;rw[if_neg (by rw[b1];simp)]
   refine aw (aj ?_)
   refine ay (o:=0+3) s2 (.tail .head) rfl rfl rfl (nle rfl) fun h3 s3=>?_
   refine tail true h3 s3 fun h' s'=>?_
   exact r.bad _ q _ hq hm0 s'.fr (s'.get (.tail _ (.head _))) rfl rfl
  ·have hm0:EE (s.drop p)=some (.name (fP (s.drop p)),s.drop q):=by
    unfold EE;rw[if_pos b1,List.drop_drop];congr 3;omega
   refine tail false h2 s2 fun h' s'=>?_
   exact r.good _ q _ hq hm0 s'.fr (s'.get (.tail _ (.head _)))
 have next:q<s.length→df (s[q]?.getD 0).toNat=true→dD (.ptr i 0) h2 (fun vs' h'=>∃ m,m<n∧∃ q:Nat,vs'=[]∧m+q=s.length∧p≤q∧(fP (s.drop q)).length+q=(fP (s.drop p)).length+p∧St h [i] h' [(q4,true,.cells zE),(i,true,rO s q D false)]):=fun hq hi=>by
  unfold dD
  have hd:=SB hq
  rw[List.getElem?_eq_getElem hq]at hi
  have hi:df s[q].toNat=true:=hi
  rw[if_pos hi]at hd
  rw[hd,List.length_cons]at hlen
  refine aw (aj (af s2 (.tail _ (.head _)) rfl (aI (by omega) (aw (aj ?_)))))
  refine ay (o:=0+1) s2 (.tail .head) rfl rfl rfl (nle rfl) fun h3 s3=>?_
  exact⟨n-1,by omega,q+1,rfl,by omega,by omega,by omega,s3⟩
 (repeat (first|refine aw ?_|refine aj ?_|refine bf ?_|refine aJ ?_|refine af ‹_› (by first|exact .head _|exact .tail _ (.head _)) rfl ?_))
 refine ah (fun b1=>?_) (fun b1=>?_)
 ·have hq:q<s.length:=by have:=of_decide_eq_true b1;omega
  have hd:=SB hq
  have hg:s[q]?.getD 0=s[q]:=by rw[List.getElem?_eq_getElem hq];rfl
  rw[hg]at next
  have next:=next hq
  have hin:df s[q].toNat=(decide (97≤s[q].toNat)&&decide (s[q].toNat≤122)||decide (s[q].toNat=95)||(decide (48≤s[q].toNat)&&decide (s[q].toNat≤57))):=rfl
  have c2:¬ (97≤s[q].toNat∧s[q].toNat≤122)→¬ (48≤s[q].toNat∧s[q].toNat≤57)→ey (.ptr i 0) h2 (fun vs' h'=>∃ m,m<n∧∃ q:Nat,vs'=[]∧m+q=s.length∧p≤q∧(fP (s.drop q)).length+q=(fP (s.drop p)).length+p∧St h [i] h' [(q4,true,.cells zE),(i,true,rO s q D false)]) (I (p:Nat)) (.ptr q4 0) Q:=fun h1 h2'=>by
   unfold ey
   refine aw (aj (af s2 (.tail _ (.head _)) rfl (aw (aj (af s2 (.tail _ (.head _)) rfl (bP hq ?_))))))
   refine aA ?_
   refine ah (fun b5=>?_) (fun b5=>?_)<;>simp only[za,zb,zc,zd,ze,zf,zg,zh,zi,u8i,zj,zk,zl]at b5
   ·exact next (by rw[hin];simp;omega)
   ·refine fin ?_
    rw[hd,if_neg (by rw[hin];simp;omega)]
  have c1:¬ (97≤s[q].toNat∧s[q].toNat≤122)→eu (.ptr i 0) h2 (fun vs' h'=>∃ m,m<n∧∃ q:Nat,vs'=[]∧m+q=s.length∧p≤q∧(fP (s.drop q)).length+q=(fP (s.drop p)).length+p∧St h [i] h' [(q4,true,.cells zE),(i,true,rO s q D false)]) (I (p:Nat)) (.ptr q4 0) Q:=fun h1=>by
   unfold eu
   refine aw (aj (af s2 (.tail _ (.head _)) rfl (aw (aj (af s2 (.tail _ (.head _)) rfl (bP hq ?_))))))
   refine bL ?_
   refine ah (fun b3=>?_) (fun b3=>?_)<;>simp only[za,zb,zc,zd,ze,zf,zg,zh,zi,u8i,zj,zk,zl]at b3
   ·refine aw (aj (af s2 (.tail _ (.head _)) rfl (aw (aj (af s2 (.tail _ (.head _)) rfl (bP hq ?_))))))
    refine fl ?_
    refine ah (fun b4=>?_) (fun b4=>?_)<;>simp only[za,zb,zc,zd,ze,zf,zg,zh,zi,u8i,zj,zk,zl]at b4
    ·exact next (by rw[hin];simp;omega)
    ·exact c2 h1 (by omega)
   ·exact c2 h1 (by omega)
  refine aw (aj (af s2 (.tail _ (.head _)) rfl (aw (aj (af s2 (.tail _ (.head _)) rfl (bP hq ?_))))))
  refine bL ?_
  refine ah (fun b2=>?_) (fun b2=>?_)<;>simp only[za,zb,zc,zd,ze,zf,zg,zh,zi,u8i,zj,zk,zl]at b2
  ·refine aw (aj (af s2 (.tail _ (.head _)) rfl (aw (aj (af s2 (.tail _ (.head _)) rfl (bP hq ?_))))))
   refine fl ?_
   refine ah (fun b3=>?_) (fun b3=>?_)<;>simp only[za,zb,zc,zd,ze,zf,zg,zh,zi,u8i,zj,zk,zl]at b3
   ·exact next (by rw[hin];simp;omega)
   ·exact c1 (by omega)
  ·exact c1 (by omega)
 ·refine fin ?_
  have:=of_decide_eq_false b1
  rw[List.drop_of_length_le (by omega)];rfl
end
end
end Go.Proofs.YtbhphjpgjgigpaaGreatDoor.AL
namespace Go.Proofs.YtbhphjpgjgigpaaGreatDoor.AL
noncomputable section
section
variable [Tabs]
variable {h:ae}{Q:QT}{i D p:Nat}{s:Str}{b:Bool}
def Jg:PF:=fun l=>if ([48,120]:Str).isPrefixOf l=true then yW 16 (l.drop 2) else if uP 10 l≠[] then yW 10 l else EE l
def C3 (group minus:PF):PF:=fun l=>
 if ([40]:Str).isPrefixOf (blk l)=true then group ((blk l).drop 1)
 else if ([45]:Str).isPrefixOf (blk l)=true then minus ((blk l).drop 1)
 else if ([46]:Str).isPrefixOf (blk l)=true then some (.here,(blk l).drop 1)
 else Jg (blk l)
def MR:Nat→PF
 | 0=>C3 (fun _=>none) fun _=>none
 | d+1=>C3 (gy (gv (MR d) 5)) (eC (MR d))
def BF (l:Str):Option Ex:=match gv (MR 12) 5 l with
 | none=>none
 | some (x,l')=>if blk l'=[] then some x else none
def lvl (k:Nat):Nat:=if k=5 then 3 else if k=6 then 3 else if k=7 then 4 else if k=8 then 1 else if k=9 then 0 else 2
def xg (L k:Nat):List Nat:=(List.range' k (12-k)).filter fun j=>decide (lvl j=L)
theorem Sb:∀ L,L<5→xg L 5=(levelsL[L]?).getD []:=by decide
theorem O9 {L k:Nat}(hk:k<12):xg L k=if lvl k=L then k::xg L (k+1) else xg L (k+1):=by
 unfold xg
 rw[show 12-k=(12-(k+1))+1 by omega,List.range'_succ,List.filter_cons]
 by_cases h:lvl k=L<;>simp[h]
theorem Jh {k:Nat}(hk:5≤k∧k<12) (q:Q (.tup [T (sg k),I (lvl k:Nat)]) h):C o8 [I (k:Nat)] h Q:=by
 refine AO _ _ _ ?_
 unfold BX
 rcases (show k=5∨k=6∨k=7∨k=8∨k=9∨k=10∨k=11 by omega) with e|e|e|e|e|e|e<;>subst e<;>
  (repeat (first|exact q|refine aA ?_|refine ah (fun hb=>?_) (fun _=>?_)|(exact absurd hb (by decide))))
theorem UO {L:Nat}(hL:L<5) (hs:s.length<1000000000) (hp:p≤s.length) (e:h[i]?=some (rO s p D false))
  (k:∀ c p' h',p'≤s.length→dt ((levelsL[L]?).getD []) (s.drop p)=(c,s.drop p')→Fr [i] h h'→h'[i]?=some (rO s p' D false)→Q (I (c:Nat)) h'):C gb [.ptr i 0,I (L:Nat)] h Q:=by
 refine oF _ _ _ _ ?_
 unfold mL
 refine aP (fun n vs h'=>∃ c q:Nat,vs=[I 0,I (c:Nat)]∧5≤c∧n+c=12∧q≤s.length∧dt (xg L c) (s.drop q)=dt (xg L 5) (s.drop p)∧Fr [i] h h'∧h'[i]?=some (rO s q D false)) 7 ⟨5,p,rfl,Nat.le_refl _,rfl,hp,rfl,Fr.refl _ _,e⟩ ?_
 rintro n vs h1 ⟨c,q,rfl,hc,hn,hq,hk,f1,e1⟩
 rw[Sb L hL]at hk
 unfold jL
 (repeat refine fl ?_)
 refine ah (fun b1=>?_) (fun b1=>?_)<;>simp only[za,zb,zc,zd,ze,zf,zg,zh,zi,u8i,zj,zk,zl]at b1
 ·refine Jh ⟨hc,by omega⟩ ?_
  have hst:=O9 (L:=L) (k:=c) (by omega)
  refine aE rfl (aE rfl (aA ?_))
  have go:∀ (h':ae) (q':Nat),q'≤s.length→dt (xg L (c+1)) (s.drop q')=dt ((levelsL[L]?).getD []) (s.drop p)→Fr [i] h h'→h'[i]?=some (rO s q' D false)→(ai .add (I (c:Nat)) (I 1) fun t11=>(fun vs' h'=>∃ m,m<n∧∃ c q:Nat,vs'=[I 0,I (c:Nat)]∧5≤c∧m+c=12∧q≤s.length∧dt (xg L c) (s.drop q)=dt (xg L 5) (s.drop p)∧Fr [i] h h'∧h'[i]?=some (rO s q D false)) [I 0,t11] h'):=fun h' q' hq' hk' f' e'=>by
   refine aI (by omega) ?_
   exact⟨n-1,by omega,c+1,q',rfl,by omega,by omega,hq',by rw[Sb L hL];exact hk',f',e'⟩
  refine ah (fun b2=>?_) (fun b2=>?_)<;>simp only[za,zb,zc,zd,ze,zf,zg,zh,zi,u8i,zj,zk,zl]at b2
  ·have b2:lvl c=L:=by omega
   rw[if_pos b2]at hst
   have st:=St.start1 e1
   refine aw (aj (af st (.head _) rfl (bQ (ah (fun _=>?_) (fun h=>by cases h)))))
   rw[hst,dt]at hk
   refine Fb (by have:∀ x∈signsL,x.length<1000:=by decide
                 have h:=List.getElem?_eq_getElem (l:=signsL) (show c<12 by omega)
                 show ((signsL[c]?).getD []).length<1000
                 rw[h];exact this _ (List.getElem_mem _)) hs e1 hq (fun hx p' h2 hp' hd f2 e2=>?_) (fun hx p' h2 hp' hd f2 e2=>?_)
   ·rw[if_pos hx]at hk
    refine ah (fun _=>?_) (fun h=>by cases h)
    exact k c p' h2 hp' (by rw[← hk,hd]) (f1.trans f2 (by simp)) e2
   ·rw[if_neg (by rw[hx];simp)]at hk
    refine ah (fun h=>by cases h) (fun _=>?_)
    exact go h2 p' hp' (by rw[hd];exact hk) (f1.trans f2 (by simp)) e2
  ·have b2:¬ lvl c=L:=by omega
   rw[if_neg b2]at hst
   rw[hst]at hk
   exact go h1 q hq hk f1 e1
 ·have hc12:c=12:=by omega
  subst hc12
  have:xg L 12=[]:=rfl
  rw[this,dt]at hk
  exact k 0 q h1 hq hk.symm f1 e1
theorem Bo {L:Nat}(e:h[i]?=some (rO s p D true)) (k:Q (I 0) h):C gb [.ptr i 0,I (L:Nat)] h Q:=by
 refine oF _ _ _ _ ?_
 unfold mL
 refine aP (fun n vs h'=>∃ c:Nat,vs=[I 0,I (c:Nat)]∧5≤c∧n+c=12∧h'=h) 7 ⟨5,rfl,Nat.le_refl _,rfl,rfl⟩ ?_
 rintro n vs h1 ⟨c,rfl,hc,hn,rfl⟩
 unfold jL
 (repeat refine fl ?_)
 refine ah (fun b1=>?_) (fun b1=>?_)<;>simp only[za,zb,zc,zd,ze,zf,zg,zh,zi,u8i,zj,zk,zl]at b1
 ·refine Jh ⟨hc,by omega⟩ ?_
  refine aE rfl (aE rfl (aA ?_))
  refine ah (fun b2=>?_) (fun b2=>?_)<;>simp only[za,zb,zc,zd,ze,zf,zg,zh,zi,u8i,zj,zk,zl]at b2
  ·have st:=St.start1 e
   refine aw (aj (af st (.head _) rfl (bQ (ah (fun h=>by cases h) (fun _=>?_)))))
   refine aI (by omega) ?_
   exact⟨n-1,by omega,c+1,rfl,by omega,by omega,rfl⟩
  ·refine aI (by omega) ?_
   exact⟨n-1,by omega,c+1,rfl,by omega,by omega,rfl⟩
 ·exact k
def vm (f:FuncId) (args:List AV) (D:Nat) (m:PF):Prop:=∀ (s:Str) (p:Nat) (h:ae) (Q:QT) (i:Nat),s.length<1000000000→p≤s.length→h[i]?=some (rO s p D false)→RRes i s D (m (s.drop p)) h Q→C f (.ptr i 0::args) h Q
theorem RRes.after {m:Option (Ex×Str)}{h1:ae}(r:RRes i s D m h Q) (f:Fr [i] h h1):RRes i s D m h1 Q:=
 ⟨fun x p' h' hp e f'=>r.good x p' h' hp e (f.trans f' (by simp)),fun cs p' h' hp e f'=>r.bad cs p' h' hp e (f.trans f' (by simp))⟩
theorem px {D:Nat}{b:Bool}{q5 q4 p:Nat}{cs:List AV}{h1:ae}(hD:D<1000) (hc:cs.length=4) (ho:cs.all AV.one=true) (s1:St h [i] h1 [(q5,true,.cells cs),(q4,true,.cells zE),(i,true,rO s p (D+1) b)])
  (k:∀ h',Fr [i] h h'→h'[i]?=some (rO s p D b)→Q (.agg cs) h'):dM (.ptr q5 0) (.ptr q4 0) (.ptr i 0) h1 Q:=by
 unfold dM
 refine aw (aj (af s1 (.tail _ (.tail _ (.head _))) rfl (cw (by omega) ?_)))
 rw[show ((D+1:Nat):Int)-1=(D:Nat) by omega]
 refine aw (aj ?_)
 refine ay (o:=0+2) s1 (.tail (.tail .head)) rfl rfl rfl (nle rfl) fun h2 s2=>?_
 refine aK s2 hc (.head _) ?_
 refine aM s2 bd hc ho (.tail .head) fun h3 s3=>?_
 refine aK s3 hc (.tail _ (.head _)) ?_
 exact k _ s3.fr (s3.get (.tail _ (.tail _ (.head _))))
theorem GJ (bb:Bool):vm cd [B bb] 12 fun _=>none:=fun s p h Q i hs hp e r=>by
 refine iZ _ _ _ _ ?_
 unfold iw
 refine aQ (St.start1 e) fun q h1 s1=>?_
 (repeat (first|refine aw ?_|refine aj ?_|refine bL ?_|refine af ‹_› (by first|exact .head _|exact .tail _ (.head _)) rfl ?_))
 refine ay (o:=0+3) s1 (.tail .head) rfl rfl rfl (nle rfl) fun h2 s2=>?_
 refine aD rfl ?_
 refine aM s2 bd rfl rfl .head fun h3 s3=>?_
 refine aK s3 rfl (.head _) ?_
 exact r.bad _ p _ hp rfl s3.fr (s3.get (.tail _ (.head _))) rfl rfl
theorem Up {two:PF}(ht:vm cG [I 0] (D+1) two) (hD:D<12):vm cd [B true] D (gy two):=fun s p h Q i hs hp e r=>by
 refine iZ _ _ _ _ ?_
 unfold iw
 refine aQ (St.start1 e) fun q h1 s1=>?_
 (repeat (first|refine aw ?_|refine aj ?_|refine bL ?_|refine af ‹_› (by first|exact .head _|exact .tail _ (.head _)) rfl ?_))
 refine ah (fun hb=>absurd hb (by simp;omega)) (fun _=>?_)
 (repeat (first|refine aw ?_|refine aj ?_|refine aI (by omega) ?_|refine af ‹_› (by first|exact .head _|exact .tail _ (.head _)) rfl ?_))
 refine ay (o:=0+2) s1 (.tail .head) rfl rfl rfl (nle rfl) fun h2 s2=>?_
 have s2:St h [i] h2 [(q,true,.cells zE),(i,true,rO s p (D+1) false)]:=s2
 refine aQ s2 fun q5 h3 s3=>?_
 refine ah (fun _=>?_) (fun h=>by cases h)
 refine ht s p h3 _ i hs hp (s3.get (.tail _ (.tail _ (.head _)))) ⟨fun x p' h4 hp' hm f4 e4=>?_,fun cs p' h4 hp' hm f4 e4 hc ho=>?_⟩
 ·have s4:=s3.call1 f4 e4 (.tail (.tail .head))
  have hm2:gy two (s.drop p)=if ([41]:Str).isPrefixOf (blk (s.drop p'))=true then some (x,(blk (s.drop p')).drop 1) else none:=by unfold gy;rw[hm]
  refine aM s4 bd (au _) (aX _) .head fun h5 s5=>?_
  refine Fb (m:=[41]) (by decide) hs (s5.get (.tail _ (.tail _ (.head _)))) hp' (fun hx p2 h6 hp2 hd f6 e6=>?_) (fun hx p2 h6 hp2 hd f6 e6=>?_)
  ·have s6:=s5.call1 f6 e6 (.tail (.tail .head))
   rw[if_pos hx]at hm2
   refine bQ (ah (fun h=>by cases h) (fun _=>?_))
   refine px (by omega) (au _) (aX _) s6 fun h7 f7 e7=>?_
   exact r.good x p2 _ hp2 (by rw[hm2,hd];rfl) f7 e7
  ·have s6:=s5.call1 f6 e6 (.tail (.tail .head))
   rw[if_neg (by rw[hx];simp)]at hm2
   refine bQ (ah (fun _=>?_) (fun h=>by cases h))
   refine aw (aj ?_)
   refine ay (o:=0+3) s6 (.tail (.tail .head)) rfl rfl rfl (nle rfl) fun h7 s7=>?_
   refine px (b:=true) (by omega) (au _) (aX _) s7 fun h8 f8 e8=>?_
   exact r.bad _ p2 _ hp2 hm2 f8 e8 (au _) (aX _)
 ·have s4:=s3.call1 f4 e4 (.tail (.tail .head))
  have hm2:gy two (s.drop p)=none:=by unfold gy;rw[hm]
  refine aM s4 bd hc ho .head fun h5 s5=>?_
  refine Fb (m:=[41]) (by decide) hs (s5.get (.tail _ (.tail _ (.head _)))) hp' (fun hx p2 h6 hp2 hd f6 e6=>?_) (fun hx p2 h6 hp2 hd f6 e6=>?_)
  ·have s6:=s5.call1 f6 e6 (.tail (.tail .head))
   refine bQ (ah (fun h=>by cases h) (fun _=>?_))
   refine px (by omega) hc ho s6 fun h7 f7 e7=>?_
   exact r.bad _ p2 _ hp2 hm2 f7 e7 hc ho
  ·have s6:=s5.call1 f6 e6 (.tail (.tail .head))
   refine bQ (ah (fun _=>?_) (fun h=>by cases h))
   refine aw (aj ?_)
   refine ay (o:=0+3) s6 (.tail (.tail .head)) rfl rfl rfl (nle rfl) fun h7 s7=>?_
   refine px (b:=true) (by omega) hc ho s7 fun h8 f8 e8=>?_
   exact r.bad _ p2 _ hp2 hm2 f8 e8 hc ho
theorem UQ {one:PF}(ht:vm c9 [] (D+1) one) (hD:D<12):vm cd [B false] D (eC one):=fun s p h Q i hs hp e r=>by
 refine iZ _ _ _ _ ?_
 unfold iw
 refine aQ (St.start1 e) fun q h1 s1=>?_
 (repeat (first|refine aw ?_|refine aj ?_|refine bL ?_|refine af ‹_› (by first|exact .head _|exact .tail _ (.head _)) rfl ?_))
 refine ah (fun hb=>absurd hb (by simp;omega)) (fun _=>?_)
 (repeat (first|refine aw ?_|refine aj ?_|refine aI (by omega) ?_|refine af ‹_› (by first|exact .head _|exact .tail _ (.head _)) rfl ?_))
 refine ay (o:=0+2) s1 (.tail .head) rfl rfl rfl (nle rfl) fun h2 s2=>?_
 have s2:St h [i] h2 [(q,true,.cells zE),(i,true,rO s p (D+1) false)]:=s2
 refine aQ s2 fun q5 h3 s3=>?_
 refine ah (fun h=>by cases h) (fun _=>?_)
 refine ht s p h3 _ i hs hp (s3.get (.tail _ (.tail _ (.head _)))) ⟨fun x p' h4 hp' hm f4 e4=>?_,fun cs p' h4 hp' hm f4 e4 hc ho=>?_⟩
 ·have s4:=s3.call1 f4 e4 (.tail (.tail .head))
  have hm2:eC one (s.drop p)=some (.neg x,s.drop p'):=by unfold eC;rw[hm]
  refine aB rfl (by simp[AV.isTup,AV.cells,au]) ?_
  rw[show ([AV.agg (bq x)].flatMap fun x=>x.cells)=bq x by simp[AV.cells]]
  refine aD rfl ?_
  refine aM s4 bd (au (.neg x)) (aX (.neg x)) .head fun h5 s5=>?_
  refine px (cs:=bq (.neg x)) (by omega) (au _) (aX _) s5 fun h6 f6 e6=>?_
  exact r.good _ p' _ hp' hm2 f6 e6
 ·have s4:=s3.call1 f4 e4 (.tail (.tail .head))
  have hm2:eC one (s.drop p)=none:=by unfold eC;rw[hm]
  refine aB rfl (by simp[AV.isTup,AV.cells,hc]) ?_
  refine aD rfl ?_
  refine aM s4 bd rfl rfl .head fun h5 s5=>?_
  refine px (by omega) rfl rfl s5 fun h6 f6 e6=>?_
  exact r.bad _ p' _ hp' hm2 f6 e6 rfl rfl
end
end
end Go.Proofs.YtbhphjpgjgigpaaGreatDoor.AL
namespace Go.Proofs.YtbhphjpgjgigpaaGreatDoor.AL
noncomputable section
section
variable [Tabs]
variable {h:ae}{Q:QT}{i D p:Nat}{s:Str}{b:Bool}
theorem Js {group minus:PF}(hG:vm cd [B true] D group) (hM:vm cd [B false] D minus):vm c9 [] D (C3 group minus):=fun s p h Q i hs hp e r=>by
 refine yV _ _ _ ?_
 unfold vj
 refine aQ (St.start1 e) fun q h1 s1=>?_
 refine aw (aj (af s1 (.tail _ (.head _)) rfl (ah (fun h=>by cases h) (fun _=>?_))))
 unfold C3 at r
 have put:∀ {m:Option (Ex×Str)} {h2:ae} {p2:Nat},St h [i] h2 [(q,true,.cells zE),(i,true,rO s p2 D false)]→RRes i s D m h Q→RRes i s D m h2 (fun t12 h4=>an 4 (.ptr q 0) t12 h4 fun h5=>aq 4 (.ptr q 0) h5 fun r6=>Q r6 h5):=fun s2 r=>⟨fun x p' h3 hp' hm f3 e3=>by
   have s3:=s2.call1 f3 e3 (.tail .head)
   refine aM s3 bd (au _) (aX _) .head fun h4 s4=>?_
   refine aK s4 (au _) (.head _) ?_
   exact r.good x p' _ hp' hm s4.fr (s4.get (.tail _ (.head _))),fun cs p' h3 hp' hm f3 e3 hc ho=>by
   have s3:=s2.call1 f3 e3 (.tail .head)
   refine aM s3 bd hc ho .head fun h4 s4=>?_
   refine aK s4 hc (.head _) ?_
   exact r.bad cs p' _ hp' hm s4.fr (s4.get (.tail _ (.head _))) hc ho⟩
 have idem:∀ l:Str,blk (blk l)=blk l:=m4 32
 refine Fb (m:=[40]) (by decide) hs (s1.get (.tail _ (.head _))) hp (fun hx p2 h2 hp2 hd f2 e2=>?_) (fun hx p2 h2 hp2 hd f2 e2=>?_)
 ·have s2:=s1.call1 f2 e2 (.tail .head)
  rw[if_pos hx,show (blk (s.drop p)).drop 1=s.drop p2 from hd.symm]at r
  refine ah (fun _=>?_) (fun h=>by cases h)
  exact hG s p2 h2 _ i hs hp2 (s2.get (.tail _ (.head _))) (put s2 r)
 have s2:=s1.call1 f2 e2 (.tail .head)
 rw[if_neg (by rw[hx];simp)]at r
 refine ah (fun h=>by cases h) (fun _=>?_)
 refine Fb (m:=[45]) (by decide) hs (s2.get (.tail _ (.head _))) hp2 (fun hx p3 h3 hp3 hd3 f3 e3=>?_) (fun hx p3 h3 hp3 hd3 f3 e3=>?_)
 ·have s3:=s2.call1 f3 e3 (.tail .head)
  rw[hd,idem]at hx hd3
  rw[if_pos hx,show (blk (s.drop p)).drop 1=s.drop p3 from hd3.symm]at r
  refine ah (fun _=>?_) (fun h=>by cases h)
  exact hM s p3 h3 _ i hs hp3 (s3.get (.tail _ (.head _))) (put s3 r)
 have s3:=s2.call1 f3 e3 (.tail .head)
 rw[hd,idem]at hx hd3
 rw[if_neg (by rw[hx];simp)]at r
 refine ah (fun h=>by cases h) (fun _=>?_)
 refine Fb (m:=[46]) (by decide) hs (s3.get (.tail _ (.head _))) hp3 (fun hx p4 h4 hp4 hd4 f4 e4=>?_) (fun hx p4 h4 hp4 hd4 f4 e4=>?_)
 ·have s4:=s3.call1 f4 e4 (.tail .head)
  rw[hd3,idem]at hx hd4
  rw[if_pos hx,show (blk (s.drop p)).drop 1=s.drop p4 from hd4.symm]at r
  refine ah (fun _=>?_) (fun h=>by cases h)
  refine aD rfl ?_
  refine aM s4 bd rfl rfl .head fun h5 s5=>?_
  refine aK s5 rfl (.head _) ?_
  exact r.good .here p4 _ hp4 rfl s5.fr (s5.get (.tail _ (.head _)))
 have s4:=s3.call1 f4 e4 (.tail .head)
 rw[hd3,idem]at hx hd4
 rw[if_neg (by rw[hx];simp)]at r
 refine ah (fun h=>by cases h) (fun _=>?_)
 unfold Jg at r
 refine Fb (m:=[48,120]) (by decide) hs (s4.get (.tail _ (.head _))) hp4 (fun hx p5 h5 hp5 hd5 f5 e5=>?_) (fun hx p5 h5 hp5 hd5 f5 e5=>?_)
 ·have s5:=s4.call1 f5 e5 (.tail .head)
  rw[hd4,idem]at hx hd5
  rw[if_pos hx,show (blk (s.drop p)).drop 2=s.drop p5 from hd5.symm]at r
  refine ah (fun _=>?_) (fun h=>by cases h)
  exact DA (.inr rfl) hs hp5 (s5.get (.tail _ (.head _))) (put s5 r)
 have s5:=s4.call1 f5 e5 (.tail .head)
 rw[hd4,idem]at hx hd5
 rw[if_neg (by rw[hx];simp),← hd5]at r
 refine ah (fun h=>by cases h) (fun _=>?_)
 (repeat (first|refine aw ?_|refine aj ?_|refine bf ?_|refine aJ ?_|refine af ‹_› (by first|exact .head _|exact .tail _ (.head _)) rfl ?_))
 refine ah (fun b1=>?_) (fun b1=>?_)<;>simp only[za,zb,zc,zd,ze,zf,zg,zh,zi,u8i,zj,zk,zl]at b1
 ·have hq:p5<s.length:=by omega
  have hdg:=QZ (base:=10) hq
  refine aw (aj (af s5 (.tail _ (.head _)) rfl (aw (aj (af s5 (.tail _ (.head _)) rfl (bP hq ?_))))))
  refine zG (base:=10) (.inl rfl) s[p5] ?_
  refine bL ?_
  refine ah (fun b2=>?_) (fun b2=>?_)<;>simp only[za,zb,zc,zd,ze,zf,zg,zh,zi,u8i,zj,zk,zl]at b2
  ·have hpb:mh 10 s[p5]=true:=by
    cases hx:mh 10 s[p5] with
    | true=>rfl
    | false=>rw[hx]at b2;simp at b2
   rw[if_pos hpb]at hdg
   rw[if_pos (by rw[hdg];simp)]at r
   exact DA (base:=10) (.inl rfl) hs hp5 (s5.get (.tail _ (.head _))) (put s5 r)
  ·have hpb:¬ mh 10 s[p5]=true:=fun h=>by rw[if_pos h]at b2;omega
   rw[if_neg hpb]at hdg
   rw[if_neg (by rw[hdg];simp)]at r
   exact I5 hs hp5 (s5.get (.tail _ (.head _))) (put s5 r)
 ·have hdg:uP 10 (s.drop p5)=[]:=by rw[List.drop_of_length_le (by omega)];rfl
  rw[if_neg (by rw[hdg];simp)]at r
  exact I5 hs hp5 (s5.get (.tail _ (.head _))) (put s5 r)
theorem Gu {one:PF}(ho:vm c9 [] D one) (hsh:iH one):∀ R,R≤5→vm cG [I ((5-R:Nat):Int)] D (gv one R)
 | 0,_=>fun s p h Q i hs hp e r=>by
   refine pL _ _ _ _ ?_
   unfold n8
   refine aQ (St.start1 e) fun q h1 s1=>?_
   refine bx (ah (fun _=>?_) (fun h=>absurd h (by decide)))
   refine ho s p h1 _ i hs hp (s1.get (.tail _ (.head _))) ⟨fun x p' h2 hp' hm f2 e2=>?_,fun cs p' h2 hp' hm f2 e2 hc ho=>?_⟩
   ·have s2:=s1.call1 f2 e2 (.tail .head)
    refine aM s2 bd (au _) (aX _) .head fun h3 s3=>?_
    refine aK s3 (au _) (.head _) ?_
    exact r.good x p' _ hp' hm s3.fr (s3.get (.tail _ (.head _)))
   ·have s2:=s1.call1 f2 e2 (.tail .head)
    refine aM s2 bd hc ho .head fun h3 s3=>?_
    refine aK s3 hc (.head _) ?_
    exact r.bad cs p' _ hp' hm s3.fr (s3.get (.tail _ (.head _))) hc ho
 | R+1,hR=>fun s p h Q i hs hp e r=>by
   have ih:=Gu ho hsh R (by omega)
   have ihs:=pV hsh R (by omega)
   have hL:4-R<5:=by omega
   have hlv:(5-(R+1):Nat)=4-R:=by omega
   have hnx:(((4-R:Nat):Int)+1)=((5-R:Nat):Int):=by omega
   have hmem:levelsL[4-R]'hL∈levelsL:=List.getElem_mem _
   obtain⟨hk1,hk2,hk3⟩:=xG _ hmem
   have hks:(levelsL[4-R]?).getD []=levelsL[4-R]'hL:=by rw[List.getElem?_eq_getElem (show 4-R<levelsL.length from hL)];rfl
   rw[← hks]at hk1
   refine pL _ _ _ _ ?_
   unfold n8
   rw[hlv]
   refine aQ (St.start1 e) fun q h1 s1=>?_
   refine bx (ah (fun h=>by simp at h;omega) (fun _=>?_))
   refine aI (by omega) ?_
   rw[hnx]
   refine ih s p h1 _ i hs hp (s1.get (.tail _ (.head _))) ⟨fun x p1 h2 hp1 hm f2 e2=>?_,fun cs p1 h2 hp1 hm f2 e2 hc ho2=>?_⟩
   ·have s2:=s1.call1 f2 e2 (.tail .head)
    have hm2:gv one (R+1) (s.drop p)=eK (gv one R) ((levelsL[4-R]?).getD []) (s.drop p1).length x (s.drop p1):=by
     conv=>lhs;unfold gv
     rw[hm]
    rw[hm2]at r
    generalize hkse:(levelsL[4-R]?).getD []=ks at hk1 r
    refine aQ s2 fun q5 h3 s3=>?_
    refine aM s3 bd (au _) (aX _) .head fun h4 s4=>?_
    generalize htot:eK (gv one R) ks (s.drop p1).length x (s.drop p1)=tot at r
    refine aP (fun n vs h'=>∃ (cs:List AV) (p2:Nat) (b:Bool),vs=[]∧cs.length=4∧cs.all AV.one=true∧p2≤s.length∧St h [i] h' [(q5,true,.cells cs),(q,true,.cells zE),(i,true,rO s p2 D b)]∧
     ((b=false∧∃ y,cs=bq y∧(s.drop p2).length≤n∧eK (gv one R) ks n y (s.drop p2)=tot)∨(b=true∧tot=none))) (s.drop p1).length
     ⟨bq x,p1,false,rfl,au _,aX _,hp1,s4,.inl ⟨rfl,x,rfl,Nat.le_refl _,htot⟩⟩ ?_
    rintro n vs h5 ⟨cs,p2,b,rfl,hc,ho3,hp2,s5,hcase⟩
    unfold jP
    rcases hcase with ⟨rfl,y,rfl,hl2,hlp⟩|⟨rfl,hno⟩
    ·refine UO hL hs hp2 (s5.get (.tail _ (.tail _ (.head _)))) fun c p3 h6 hp3 hkm f6 e6=>?_
     rw[hkse]at hkm
     have s6:=s5.call1 f6 e6 (.tail (.tail .head))
     obtain⟨hl4,hl5⟩:=pC ks hk1 (s.drop p2)
     rw[hkm]at hl4 hl5
     refine aA ?_
     refine ah (fun b1=>?_) (fun b1=>?_)<;>simp only[za,zb,zc,zd,ze,zf,zg,zh,zi,u8i,zj,zk,zl]at b1
     ·have hc0:c=0:=by omega
      subst hc0
      refine aK s6 (au _) (.head _) ?_
      refine aM s6 bd (au _) (aX _) (.tail .head) fun h7 s7=>?_
      refine aK s7 (au _) (.tail _ (.head _)) ?_
      refine r.good y p3 _ hp3 ?_ s7.fr (s7.get (.tail _ (.tail _ (.head _))))
      rw[← hlp]
      cases n with
      | zero=>rw[eK,hkm];simp
      | succ n=>rw[eK,hkm];simp
     ·have hc0:c≠0:=by omega
      have hl5:=hl5 hc0
      simp only at hl5
      obtain⟨n',rfl⟩:∃ m,n=m+1:=⟨n-1,by omega⟩
      rw[eK,hkm]at hlp
      simp only[if_neg hc0]at hlp
      refine aK s6 (au _) (.head _) ?_
      refine aI (by omega) ?_
      rw[hnx]
      refine ih s p3 h6 _ i hs hp3 (s6.get (.tail _ (.tail _ (.head _)))) ⟨fun z p4 h7 hp4 hm3 f7 e7=>?_,fun cs2 p4 h7 hp4 hm3 f7 e7 hc2 ho4=>?_⟩
      ·have s7:=s6.call1 f7 e7 (.tail (.tail .head))
       rw[hm3]at hlp
       refine⟨aK s7 (au _) (.head _) rfl,?_⟩
       refine aB rfl (by simp[AV.isTup,AV.cells,au]) ?_
       rw[show ([AV.agg (bq y),AV.agg (bq z)].flatMap fun x=>x.cells)=bq y++bq z by simp[AV.cells]]
       refine aD rfl ?_
       refine aM s7 (au _) (au (.bin c y z)) (aX (.bin c y z)) .head fun h8 s8=>?_
       have hsh2:=ihs _ _ _ hm3
       exact⟨n',by omega,_,p4,false,rfl,au (.bin c y z),aX (.bin c y z),hp4,s8,.inl ⟨rfl,.bin c y z,rfl,by omega,hlp⟩⟩
      ·have s7:=s6.call1 f7 e7 (.tail (.tail .head))
       rw[hm3]at hlp
       refine⟨aK s7 (au _) (.head _) rfl,?_⟩
       refine aB rfl (by simp[AV.isTup,AV.cells,au,hc2]) ?_
       refine aD rfl ?_
       refine aM s7 (au _) rfl rfl .head fun h8 s8=>?_
       exact⟨n',by omega,_,p4,true,rfl,rfl,rfl,hp4,s8,.inr ⟨rfl,hlp.symm⟩⟩
    ·refine Bo (s5.get (.tail _ (.tail _ (.head _)))) ?_
     refine aA (ah (fun _=>?_) (fun h=>by cases h))
     refine aK s5 hc (.head _) ?_
     refine aM s5 bd hc ho3 (.tail .head) fun h6 s6=>?_
     refine aK s6 hc (.tail _ (.head _)) ?_
     exact r.bad cs p2 _ hp2 hno s6.fr (s6.get (.tail _ (.tail _ (.head _)))) hc ho3
   ·have s2:=s1.call1 f2 e2 (.tail .head)
    have hm2:gv one (R+1) (s.drop p)=none:=by
     conv=>lhs;unfold gv
     rw[hm]
    refine aQ s2 fun q5 h3 s3=>?_
    refine aM s3 bd hc ho2 .head fun h4 s4=>?_
    refine Af 1 (qJ ?_)
    unfold jP
    refine Bo (s4.get (.tail _ (.tail _ (.head _)))) ?_
    refine aA (ah (fun _=>?_) (fun h=>by cases h))
    refine aK s4 hc (.head _) ?_
    refine aM s4 bd hc ho2 (.tail .head) fun h5 s5=>?_
    refine aK s5 hc (.tail _ (.head _)) ?_
    exact r.bad cs p1 _ hp1 hm2 s5.fr (s5.get (.tail _ (.tail _ (.head _)))) hc ho2
end
end
end Go.Proofs.YtbhphjpgjgigpaaGreatDoor.AL
