import Derived.Test.YtgkmmcdhhkllnaaGreatDoorSB
import Derived.Test.YtgkmmcdhhkllnaaGreatDoorItM
import Derived.Test.YtgkmmcdhhkllnaaGreatDoorAL27toAL31
set_option linter.all false
set_option autoImplicit true
set_option relaxedAutoImplicit true
set_option maxRecDepth 100000
namespace Go.Proofs.YtgkmmcdhhkllnaaGreatDoor.AL
noncomputable section
open Go.Proofs Go.RowKit Go.Maps Go.Sort Go.Shelf
open Go.Proofs (encStr)
section
variable [Tabs]
def isNone:AV→Bool
 | .full 0 []=>true
 | .snap 0 []=>true
 | _=>false
theorem lN {v:AV}(h:isNone v=true):v=.full 0 []∨v=.snap 0 []:=by
 unfold isNone at h
 split at h
 ·exact .inl rfl
 ·exact .inr rfl
 ·cases h
def ov (args:List AV) (t:HT) (n:Nat) (K:AV→HT→Nat→Bool):Option Bool:=match args with
 | [v]=>match isNone v with
   | true=>some (K (.full 0 []) t n)
   | false=>none
 | _=>none
theorem NQ:AO Pg 52 93 75:=⟨⟨_,Tryz.func52,by kernel_rfl,by kernel_rfl⟩,fun b W=>callsIn_wide.1 (Tryz.maps_Keys_52 (some b) W)⟩
theorem G4:qE Pg 51 93 9:=⟨⟨_,Tryz.func51,by kernel_rfl,by kernel_rfl⟩,Tryz.underlying9,fun Bm b nn D0 R W hBm hcell hown hsz=>by
 have hseq:SeqGives Fence.wide 2 Tryz.prog 93 #[.pointer (some ⟨Bm,0,none⟩)] encStr (fun ss=>ss.Perm (strKeys D0)) (Maps.size D0) W:=
  AnyZ.keys_gives (ρ:=Tryz.keys52_ren) { Tryz.keys52 with } Fence.wide _ trivial rfl (by omega) Bm b nn D0 W hBm hcell hown
 exact callsIn_wide.1 (AnyZ.sorted_in Tryz.sorted51 Fence.wide 5 trivial trivial trivial trivial rfl (by omega) (Tryz.sorts51 _) (enters_of Tryz.func92 (by kernel_rfl) rfl) 93 #[.pointer (some ⟨Bm,0,none⟩)] trivial (enters_of Tryz.func93 (by kernel_rfl) rfl) _ _ (Nat.le_trans hsz (by unfold maxLen;omega)) (by omega) _ hseq)⟩
theorem Qi:AO Pg 54 94 76:=⟨⟨_,Tryz.func54,by kernel_rfl,by kernel_rfl⟩,fun b W=>callsIn_wide.1 (Tryz.maps_Keys_54 (some b) W)⟩
theorem IG:qE Pg 51 94 9:=⟨⟨_,Tryz.func51,by kernel_rfl,by kernel_rfl⟩,Tryz.underlying9,fun Bm b nn D0 R W hBm hcell hown hsz=>by
 have hseq:SeqGives Fence.wide 2 Tryz.prog 94 #[.pointer (some ⟨Bm,0,none⟩)] encStr (fun ss=>ss.Perm (strKeys D0)) (Maps.size D0) W:=
  AnyZ.keys_gives (ρ:=Tryz.keys54_ren) { Tryz.keys54 with } Fence.wide _ trivial rfl (by omega) Bm b nn D0 W hBm hcell hown
 exact callsIn_wide.1 (AnyZ.sorted_in Tryz.sorted51 Fence.wide 5 trivial trivial trivial trivial rfl (by omega) (Tryz.sorts51 _) (enters_of Tryz.func92 (by kernel_rfl) rfl) 94 #[.pointer (some ⟨Bm,0,none⟩)] trivial (enters_of Tryz.func94 (by kernel_rfl) rfl) _ _ (Nat.le_trans hsz (by unfold maxLen;omega)) (by omega) _ hseq)⟩
theorem aaD (v:AV) (hv:isNone v=true) (h:ae) (Q:QT) (k:Q (.full 0 []) h):C 39 [v] h Q:=by
 refine gP _ _ _ ?_
 unfold eT
 rcases lN hv with rfl|rfl<;>refine⟨⟨k,⟨⟨by simp,⟨?_⟩⟩⟩⟩⟩<;>simp[eC,ct,k]
theorem aaf (v:AV) (hv:isNone v=true) (h:ae) (Q:QT) (k:Q (.full 0 []) h):C 47 [v] h Q:=by
 refine fq _ _ _ ?_
 unfold dR
 rcases lN hv with rfl|rfl<;>refine⟨⟨k,⟨⟨by simp,⟨?_⟩⟩⟩⟩⟩<;>simp[eC,ct,k]
theorem aat (v:AV) (hv:isNone v=true) (h:ae) (Q:QT) (k:Q (.full 0 []) h):C 49 [v] h Q:=by
 refine jJ _ _ _ ?_
 unfold gO
 rcases lN hv with rfl|rfl<;>refine⟨⟨k,⟨⟨by simp,⟨?_⟩⟩⟩⟩⟩<;>simp[eC,ct,k]
theorem aba (v:AV) (hv:isNone v=true) (h:ae) (Q:QT) (k:Q (.full 0 []) h):C 53 [v] h Q:=by
 refine fg _ _ _ ?_
 unfold dS
 rcases lN hv with rfl|rfl<;>refine⟨⟨k,⟨⟨by simp,⟨?_⟩⟩⟩⟩⟩<;>simp[eC,ct,k]
theorem aaU (v:AV) (hv:isNone v=true) (h:ae) (Q:QT) (k:Q (.full 0 []) h):C 55 [v] h Q:=by
 refine fV _ _ _ ?_
 unfold eo
 rcases lN hv with rfl|rfl<;>refine⟨⟨k,⟨⟨by simp,⟨?_⟩⟩⟩⟩⟩<;>simp[eC,ct,k]
theorem abd (v:AV) (hv:isNone v=true) (h:ae) (Q:QT) (k:Q (.full 0 []) h):C 80 [v] h Q:=by
 refine fm _ _ _ ?_
 unfold dQ
 rcases lN hv with rfl|rfl<;>refine⟨⟨k,⟨⟨by simp,⟨?_⟩⟩⟩⟩⟩<;>simp[eC,ct,k]
theorem Z7 (v:AV) (hv:isNone v=true) (h:ae) (Q:QT) (k:Q (.full 0 []) h):C 81 [v] h Q:=by
 refine ll _ _ _ ?_
 unfold iV
 rcases lN hv with rfl|rfl<;>refine⟨⟨k,⟨⟨by simp,⟨?_⟩⟩⟩⟩⟩<;>simp[eC,ct,k]
theorem Yo (v:AV) (hv:isNone v=true) (h:ae) (Q:QT) (k:Q (.full 0 []) h):C 113 [v] h Q:=by
 refine fU _ _ _ ?_
 unfold en
 rcases lN hv with rfl|rfl<;>refine⟨⟨k,⟨⟨by simp,⟨?_⟩⟩⟩⟩⟩<;>simp[eC,ct,k]
end
def spK:Ig:=fun f args t n K=>match Nat.beq f 137 with|true=>some (LP args t n K)|false=>match Nat.beq f 52 with|true=>some (Mc 93 args t n K)|false=>match Nat.beq f 54 with|true=>some (Mc 94 args t n K)|false=>match Nat.beq f 51 with|true=>(match args with|[.fn (.func g) _ _]=>(match Nat.beq g 93 with|true=>some (Bj 93 args t n K)|false=>match Nat.beq g 94 with|true=>some (Bj 94 args t n K)|false=>some false)|_=>some false)|false=>match Nat.beq f 39 with|true=>ov args t n K|false=>match Nat.beq f 47 with|true=>ov args t n K|false=>match Nat.beq f 49 with|true=>ov args t n K|false=>match Nat.beq f 53 with|true=>ov args t n K|false=>match Nat.beq f 55 with|true=>ov args t n K|false=>match Nat.beq f 80 with|true=>ov args t n K|false=>match Nat.beq f 81 with|true=>ov args t n K|false=>match Nat.beq f 113 with|true=>ov args t n K|false=>none
theorem acw [Tabs5]:Mu Pg spK:=fun f args t n h K hr k=>by
 unfold spK at k
 split at k
 ·rename_i hf;rw[Nat.eq_of_beq_eq_true hf];exact Q0 TF Tabs5.m0 hr (by simpa using k)
 have cl:∀ {g:FuncId},(∀ (v:AV),isNone v=true→∀ (h:ae) (Q:QT),Q (.full 0 []) h→C g [v] h Q)→ov args t n K=some true→C g args h (KH K):=fun hg k=>by
  unfold ov at k
  split at k
  ·split at k
   ·exact hg _ ‹_› _ _ ⟨t,n,hr,by simpa using k⟩
   ·cases k
  ·cases k
 split at k
 ·rename_i hf;rw[Nat.eq_of_beq_eq_true hf];exact JK NQ hr (by simpa using k)
 split at k
 ·rename_i hf;rw[Nat.eq_of_beq_eq_true hf];exact JK Qi hr (by simpa using k)
 split at k
 ·rename_i hf;rw[Nat.eq_of_beq_eq_true hf]
  split at k
  ·split at k
   ·rename_i g hg;exact EZ G4 hr (by simpa using k)
   split at k
   ·exact EZ IG hr (by simpa using k)
   ·cases k
  ·cases k
 split at k
 ·rename_i hf;rw[Nat.eq_of_beq_eq_true hf];exact cl aaD k
 split at k
 ·rename_i hf;rw[Nat.eq_of_beq_eq_true hf];exact cl aaf k
 split at k
 ·rename_i hf;rw[Nat.eq_of_beq_eq_true hf];exact cl aat k
 split at k
 ·rename_i hf;rw[Nat.eq_of_beq_eq_true hf];exact cl aba k
 split at k
 ·rename_i hf;rw[Nat.eq_of_beq_eq_true hf];exact cl aaU k
 split at k
 ·rename_i hf;rw[Nat.eq_of_beq_eq_true hf];exact cl abd k
 split at k
 ·rename_i hf;rw[Nat.eq_of_beq_eq_true hf];exact cl Z7 k
 split at k
 ·rename_i hf;rw[Nat.eq_of_beq_eq_true hf];exact cl Yo k
 ·cases k
