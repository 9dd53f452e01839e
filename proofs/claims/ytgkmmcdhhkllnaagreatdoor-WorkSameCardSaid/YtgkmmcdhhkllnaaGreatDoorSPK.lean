import Derived.Test.YtgkmmcdhhkllnaaGreatDoorSB
import Derived.Test.YtgkmmcdhhkllnaaGreatDoorItM
import Derived.Test.YtgkmmcdhhkllnaaGreatDoorAL27toAL31
set_option linter.all false
set_option autoImplicit true
set_option relaxedAutoImplicit true
set_option maxRecDepth 100000
namespace Go.Proofs.YtgkmmcdhhkllnaaGreatDoor.AL
noncomputable section
open Go.Proofs Go.RowKit Go.Maps Go.Sort Go.Shelf
open Go.Proofs (encStr)
section
variable [Tabs]
def isNone:AV→Bool
 | .full 0 []=>true
 | .snap 0 []=>true
 | _=>false
theorem lV {v:AV}(h:isNone v=true):v=.full 0 []∨v=.snap 0 []:=by
 unfold isNone at h
 split at h
 ·exact .inl rfl
 ·exact .inr rfl
 ·cases h
def oB (args:List AV) (t:HT) (n:Nat) (K:AV→HT→Nat→Bool):Option Bool:=match args with
 | [v]=>match isNone v with
   | true=>some (K (.full 0 []) t n)
   | false=>none
 | _=>none
theorem OG:AA Pg 52 93 75:=⟨⟨_,Tryz.func52,by kernel_rfl,by kernel_rfl⟩,fun b W=>callsIn_wide.1 (Tryz.maps_Keys_52 (some b) W)⟩
theorem Io:rb Pg 51 93 9:=⟨⟨_,Tryz.func51,by kernel_rfl,by kernel_rfl⟩,Tryz.underlying9,fun Bm b nn D0 R W hBm hcell hown hsz=>by
 have hseq:SeqGives Fence.wide 2 Tryz.prog 93 #[.pointer (some ⟨Bm,0,none⟩)] encStr (fun ss=>ss.Perm (strKeys D0)) (Maps.size D0) W:=
  AnyZ.keys_gives (ρ:=Tryz.keys52_ren) { Tryz.keys52 with } Fence.wide _ trivial rfl (by omega) Bm b nn D0 W hBm hcell hown
 exact callsIn_wide.1 (AnyZ.sorted_in Tryz.sorted51 Fence.wide 5 trivial trivial trivial trivial rfl (by omega) (Tryz.sorts51 _) (enters_of Tryz.func92 (by kernel_rfl) rfl) 93 #[.pointer (some ⟨Bm,0,none⟩)] trivial (enters_of Tryz.func93 (by kernel_rfl) rfl) _ _ (Nat.le_trans hsz (by unfold maxLen;omega)) (by omega) _ hseq)⟩
theorem O5:AA Pg 54 94 76:=⟨⟨_,Tryz.func54,by kernel_rfl,by kernel_rfl⟩,fun b W=>callsIn_wide.1 (Tryz.maps_Keys_54 (some b) W)⟩
theorem HH:rb Pg 51 94 9:=⟨⟨_,Tryz.func51,by kernel_rfl,by kernel_rfl⟩,Tryz.underlying9,fun Bm b nn D0 R W hBm hcell hown hsz=>by
 have hseq:SeqGives Fence.wide 2 Tryz.prog 94 #[.pointer (some ⟨Bm,0,none⟩)] encStr (fun ss=>ss.Perm (strKeys D0)) (Maps.size D0) W:=
  AnyZ.keys_gives (ρ:=Tryz.keys54_ren) { Tryz.keys54 with } Fence.wide _ trivial rfl (by omega) Bm b nn D0 W hBm hcell hown
 exact callsIn_wide.1 (AnyZ.sorted_in Tryz.sorted51 Fence.wide 5 trivial trivial trivial trivial rfl (by omega) (Tryz.sorts51 _) (enters_of Tryz.func92 (by kernel_rfl) rfl) 94 #[.pointer (some ⟨Bm,0,none⟩)] trivial (enters_of Tryz.func94 (by kernel_rfl) rfl) _ _ (Nat.le_trans hsz (by unfold maxLen;omega)) (by omega) _ hseq)⟩
theorem aaF (v:AV) (hv:isNone v=true) (h:ae) (Q:QT) (k:Q (.full 0 []) h):C 39 [v] h Q:=by
 refine gZ _ _ _ ?_
 unfold eZ
 rcases lV hv with rfl|rfl<;>refine⟨⟨k,⟨⟨by simp,⟨?_⟩⟩⟩⟩⟩<;>simp[ew,cu,k]
theorem aax (v:AV) (hv:isNone v=true) (h:ae) (Q:QT) (k:Q (.full 0 []) h):C 47 [v] h Q:=by
 refine fp _ _ _ ?_
 unfold dP
 rcases lV hv with rfl|rfl<;>refine⟨⟨k,⟨⟨by simp,⟨?_⟩⟩⟩⟩⟩<;>simp[ew,cu,k]
theorem aaM (v:AV) (hv:isNone v=true) (h:ae) (Q:QT) (k:Q (.full 0 []) h):C 49 [v] h Q:=by
 refine jF _ _ _ ?_
 unfold gU
 rcases lV hv with rfl|rfl<;>refine⟨⟨k,⟨⟨by simp,⟨?_⟩⟩⟩⟩⟩<;>simp[ew,cu,k]
theorem aaz (v:AV) (hv:isNone v=true) (h:ae) (Q:QT) (k:Q (.full 0 []) h):C 53 [v] h Q:=by
 refine fj _ _ _ ?_
 unfold dS
 rcases lV hv with rfl|rfl<;>refine⟨⟨k,⟨⟨by simp,⟨?_⟩⟩⟩⟩⟩<;>simp[ew,cu,k]
theorem aa8 (v:AV) (hv:isNone v=true) (h:ae) (Q:QT) (k:Q (.full 0 []) h):C 55 [v] h Q:=by
 refine fZ _ _ _ ?_
 unfold em
 rcases lV hv with rfl|rfl<;>refine⟨⟨k,⟨⟨by simp,⟨?_⟩⟩⟩⟩⟩<;>simp[ew,cu,k]
theorem aa3 (v:AV) (hv:isNone v=true) (h:ae) (Q:QT) (k:Q (.full 0 []) h):C 80 [v] h Q:=by
 refine fh _ _ _ ?_
 unfold dR
 rcases lV hv with rfl|rfl<;>refine⟨⟨k,⟨⟨by simp,⟨?_⟩⟩⟩⟩⟩<;>simp[ew,cu,k]
theorem abe (v:AV) (hv:isNone v=true) (h:ae) (Q:QT) (k:Q (.full 0 []) h):C 81 [v] h Q:=by
 refine lc _ _ _ ?_
 unfold iX
 rcases lV hv with rfl|rfl<;>refine⟨⟨k,⟨⟨by simp,⟨?_⟩⟩⟩⟩⟩<;>simp[ew,cu,k]
theorem W6 (v:AV) (hv:isNone v=true) (h:ae) (Q:QT) (k:Q (.full 0 []) h):C 113 [v] h Q:=by
 refine gf _ _ _ ?_
 unfold ee
 rcases lV hv with rfl|rfl<;>refine⟨⟨k,⟨⟨by simp,⟨?_⟩⟩⟩⟩⟩<;>simp[ew,cu,k]
end
def spK:Hd:=fun f args t n K=>match Nat.beq f 137 with|true=>some (LQ args t n K)|false=>match Nat.beq f 52 with|true=>some (LS 93 args t n K)|false=>match Nat.beq f 54 with|true=>some (LS 94 args t n K)|false=>match Nat.beq f 51 with|true=>(match args with|[.fn (.func g) _ _]=>(match Nat.beq g 93 with|true=>some (B4 93 args t n K)|false=>match Nat.beq g 94 with|true=>some (B4 94 args t n K)|false=>some false)|_=>some false)|false=>match Nat.beq f 39 with|true=>oB args t n K|false=>match Nat.beq f 47 with|true=>oB args t n K|false=>match Nat.beq f 49 with|true=>oB args t n K|false=>match Nat.beq f 53 with|true=>oB args t n K|false=>match Nat.beq f 55 with|true=>oB args t n K|false=>match Nat.beq f 80 with|true=>oB args t n K|false=>match Nat.beq f 81 with|true=>oB args t n K|false=>match Nat.beq f 113 with|true=>oB args t n K|false=>none
theorem acU [Tabs5]:My Pg spK:=fun f args t n h K hr k=>by
 unfold spK at k
 split at k
 ·rename_i hf;rw[Nat.eq_of_beq_eq_true hf];exact SB T1 Tabs5.m0 hr (by simpa using k)
 have cl:∀ {g:FuncId},(∀ (v:AV),isNone v=true→∀ (h:ae) (Q:QT),Q (.full 0 []) h→C g [v] h Q)→oB args t n K=some true→C g args h (KH K):=fun hg k=>by
  unfold oB at k
  split at k
  ·split at k
   ·exact hg _ ‹_› _ _ ⟨t,n,hr,by simpa using k⟩
   ·cases k
  ·cases k
 split at k
 ·rename_i hf;rw[Nat.eq_of_beq_eq_true hf];exact K7 OG hr (by simpa using k)
 split at k
 ·rename_i hf;rw[Nat.eq_of_beq_eq_true hf];exact K7 O5 hr (by simpa using k)
 split at k
 ·rename_i hf;rw[Nat.eq_of_beq_eq_true hf]
  split at k
  ·split at k
   ·rename_i g hg;exact Fe Io hr (by simpa using k)
   split at k
   ·exact Fe HH hr (by simpa using k)
   ·cases k
  ·cases k
 split at k
 ·rename_i hf;rw[Nat.eq_of_beq_eq_true hf];exact cl aaF k
 split at k
 ·rename_i hf;rw[Nat.eq_of_beq_eq_true hf];exact cl aax k
 split at k
 ·rename_i hf;rw[Nat.eq_of_beq_eq_true hf];exact cl aaM k
 split at k
 ·rename_i hf;rw[Nat.eq_of_beq_eq_true hf];exact cl aaz k
 split at k
 ·rename_i hf;rw[Nat.eq_of_beq_eq_true hf];exact cl aa8 k
 split at k
 ·rename_i hf;rw[Nat.eq_of_beq_eq_true hf];exact cl aa3 k
 split at k
 ·rename_i hf;rw[Nat.eq_of_beq_eq_true hf];exact cl abe k
 split at k
 ·rename_i hf;rw[Nat.eq_of_beq_eq_true hf];exact cl W6 k
 ·cases k
