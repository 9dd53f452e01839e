import Derived.Test.YtmocchnodigmlaaGreatDoorAL9d
import Derived.Test.YtmocchnodigmlaaGreatDoorAL10m
set_option linter.all false
set_option autoImplicit true
set_option relaxedAutoImplicit true
set_option linter.unusedVariables false
set_option linter.unusedSimpArgs false
/-! More steps as things that do not open by themselves; each asks less where less is asked behind it. -/
namespace Go.Proofs.YtmocchnodigmlaaGreatDoor.AL
variable [Tabs]
structure qLookup (d : TypeDesc) (ok : Bool) (z x key : AV) (h : AHeap) (K : AV → Prop) : Prop where
  mk :: (out : pLookup d ok z x key h K)
theorem qLookup_iff (d : TypeDesc) (ok : Bool) (z x key : AV) (h : AHeap) (K : AV → Prop) : qLookup d ok z x key h K ↔ pLookup d ok z x key h K := ⟨fun h => h.out, fun h => ⟨h⟩⟩
structure qBytesStr (x : AV) (h : AHeap) (K : AV → Prop) : Prop where
  mk :: (out : pBytesStr x h K)
theorem qBytesStr_iff (x : AV) (h : AHeap) (K : AV → Prop) : qBytesStr x h K ↔ pBytesStr x h K := ⟨fun h => h.out, fun h => ⟨h⟩⟩
structure qIsNilM (op : BinOp) (x : AV) (K : AV → Prop) : Prop where
  mk :: (out : pIsNilM op x K)
theorem qIsNilM_iff (op : BinOp) (x : AV) (K : AV → Prop) : qIsNilM op x K ↔ pIsNilM op x K := ⟨fun h => h.out, fun h => ⟨h⟩⟩
structure qIsNilI (op : BinOp) (x : AV) (K : AV → Prop) : Prop where
  mk :: (out : pIsNilI op x K)
theorem qIsNilI_iff (op : BinOp) (x : AV) (K : AV → Prop) : qIsNilI op x K ↔ pIsNilI op x K := ⟨fun h => h.out, fun h => ⟨h⟩⟩
structure qIsNilF (op : BinOp) (x : AV) (K : AV → Prop) : Prop where
  mk :: (out : pIsNilF op x K)
theorem qIsNilF_iff (op : BinOp) (x : AV) (K : AV → Prop) : qIsNilF op x K ↔ pIsNilF op x K := ⟨fun h => h.out, fun h => ⟨h⟩⟩
structure qIsNilS (op : BinOp) (x : AV) (K : AV → Prop) : Prop where
  mk :: (out : pIsNilS op x K)
theorem qIsNilS_iff (op : BinOp) (x : AV) (K : AV → Prop) : qIsNilS op x K ↔ pIsNilS op x K := ⟨fun h => h.out, fun h => ⟨h⟩⟩
structure qEntry (x : AV) (h : AHeap) (K : AV → Prop) : Prop where
  mk :: (out : pEntry x h K)
theorem qEntry_iff (x : AV) (h : AHeap) (K : AV → Prop) : qEntry x h K ↔ pEntry x h K := ⟨fun h => h.out, fun h => ⟨h⟩⟩
structure qEqS (op : BinOp) (ds : List TypeDesc) (x y : AV) (K : AV → Prop) : Prop where
  mk :: (out : pEqS op ds x y K)
theorem qEqS_iff (op : BinOp) (ds : List TypeDesc) (x y : AV) (K : AV → Prop) : qEqS op ds x y K ↔ pEqS op ds x y K := ⟨fun h => h.out, fun h => ⟨h⟩⟩
structure qMapUpdate (d : TypeDesc) (x key v : AV) (h : AHeap) (K : AHeap → Prop) : Prop where
  mk :: (out : eMapUpdate d x key v h K)
theorem qMapUpdate_iff (d : TypeDesc) (x key v : AV) (h : AHeap) (K : AHeap → Prop) : qMapUpdate d x key v h K ↔ eMapUpdate d x key v h K := ⟨fun h => h.out, fun h => ⟨h⟩⟩
structure qMapEntry (d : TypeDesc) (z x key : AV) (h : AHeap) (K : AV → AHeap → Prop) : Prop where
  mk :: (out : eMapEntry d z x key h K)
theorem qMapEntry_iff (d : TypeDesc) (z x key : AV) (h : AHeap) (K : AV → AHeap → Prop) : qMapEntry d z x key h K ↔ eMapEntry d z x key h K := ⟨fun h => h.out, fun h => ⟨h⟩⟩
structure qEntryStore (x st v : AV) (h : AHeap) (K : AHeap → Prop) : Prop where
  mk :: (out : eEntryStore x st v h K)
theorem qEntryStore_iff (x st v : AV) (h : AHeap) (K : AHeap → Prop) : qEntryStore x st v h K ↔ eEntryStore x st v h K := ⟨fun h => h.out, fun h => ⟨h⟩⟩
structure qDelete (d : TypeDesc) (x key : AV) (h : AHeap) (K : AHeap → Prop) : Prop where
  mk :: (out : eDelete d x key h K)
theorem qDelete_iff (d : TypeDesc) (x key : AV) (h : AHeap) (K : AHeap → Prop) : qDelete d x key h K ↔ eDelete d x key h K := ⟨fun h => h.out, fun h => ⟨h⟩⟩
structure qMakeMap (h : AHeap) (K : AV → AHeap → Prop) : Prop where
  mk :: (out : eMakeMap h K)
theorem qMakeMap_iff (h : AHeap) (K : AV → AHeap → Prop) : qMakeMap h K ↔ eMakeMap h K := ⟨fun h => h.out, fun h => ⟨h⟩⟩
structure qRangeS (x : AV) (h : AHeap) (K : AV → AHeap → Prop) : Prop where
  mk :: (out : eRangeS x h K)
theorem qRangeS_iff (x : AV) (h : AHeap) (K : AV → AHeap → Prop) : qRangeS x h K ↔ eRangeS x h K := ⟨fun h => h.out, fun h => ⟨h⟩⟩
structure qNextS (x : AV) (h : AHeap) (K : AV → AHeap → Prop) : Prop where
  mk :: (out : eNextS x h K)
theorem qNextS_iff (x : AV) (h : AHeap) (K : AV → AHeap → Prop) : qNextS x h K ↔ eNextS x h K := ⟨fun h => h.out, fun h => ⟨h⟩⟩
structure qRangeM (x : AV) (h : AHeap) (K : AV → AHeap → Prop) : Prop where
  mk :: (out : eRangeM x h K)
theorem qRangeM_iff (x : AV) (h : AHeap) (K : AV → AHeap → Prop) : qRangeM x h K ↔ eRangeM x h K := ⟨fun h => h.out, fun h => ⟨h⟩⟩
structure qNextM (x : AV) (h : AHeap) (K : AV → AHeap → Prop) : Prop where
  mk :: (out : eNextM x h K)
theorem qNextM_iff (x : AV) (h : AHeap) (K : AV → AHeap → Prop) : qNextM x h K ↔ eNextM x h K := ⟨fun h => h.out, fun h => ⟨h⟩⟩
structure qStrBytes (x : AV) (h : AHeap) (K : AV → AHeap → Prop) : Prop where
  mk :: (out : eStrBytes x h K)
theorem qStrBytes_iff (x : AV) (h : AHeap) (K : AV → AHeap → Prop) : qStrBytes x h K ↔ eStrBytes x h K := ⟨fun h => h.out, fun h => ⟨h⟩⟩
structure qMakeSlice (b : Nat) (z l c : AV) (h : AHeap) (K : AV → AHeap → Prop) : Prop where
  mk :: (out : eMakeSlice b z l c h K)
theorem qMakeSlice_iff (b : Nat) (z l c : AV) (h : AHeap) (K : AV → AHeap → Prop) : qMakeSlice b z l c h K ↔ eMakeSlice b z l c h K := ⟨fun h => h.out, fun h => ⟨h⟩⟩
theorem nilK_mono {K K' : AV → Prop} (hk : ∀ v, K v → K' v) (op : BinOp) (b : Bool) (k : nilK op b K) : nilK op b K' := by
  unfold nilK at *
  split at k <;> first | exact k.elim | exact hk _ k
theorem pLookup_mono {K K' : AV → Prop} (hk : ∀ v, K v → K' v) (d : TypeDesc) (ok : Bool) (z x key : AV) (h : AHeap) (k : pLookup d ok z x key h K) : pLookup d ok z x key h K' := by
  unfold pLookup at *
  (repeat' split at k) <;> first | exact k.elim | (simp_all; done) | (simp_all only []; exact hk _ k)
theorem qLookup_mono {K K' : AV → Prop} (hk : ∀ v, K v → K' v) (d : TypeDesc) (ok : Bool) (z x key : AV) (h : AHeap) (k : qLookup d ok z x key h K) : qLookup d ok z x key h K' := ⟨pLookup_mono hk d ok z x key h k.out⟩
theorem pBytesStr_mono {K K' : AV → Prop} (hk : ∀ v, K v → K' v) (x : AV) (h : AHeap) (k : pBytesStr x h K) : pBytesStr x h K' := by
  unfold pBytesStr at *
  (repeat' split at k) <;> first | exact k.elim | (simp_all; done) | (simp_all only []; exact hk _ k)
theorem qBytesStr_mono {K K' : AV → Prop} (hk : ∀ v, K v → K' v) (x : AV) (h : AHeap) (k : qBytesStr x h K) : qBytesStr x h K' := ⟨pBytesStr_mono hk x h k.out⟩
theorem pIsNilM_mono {K K' : AV → Prop} (hk : ∀ v, K v → K' v) (op : BinOp) (x : AV) (k : pIsNilM op x K) : pIsNilM op x K' := by
  unfold pIsNilM at *
  (repeat' split at k) <;> first | exact k.elim | (simp_all; done) | (simp_all only []; exact hk _ k)
theorem qIsNilM_mono {K K' : AV → Prop} (hk : ∀ v, K v → K' v) (op : BinOp) (x : AV) (k : qIsNilM op x K) : qIsNilM op x K' := ⟨pIsNilM_mono hk op x k.out⟩
theorem pIsNilI_mono {K K' : AV → Prop} (hk : ∀ v, K v → K' v) (op : BinOp) (x : AV) (k : pIsNilI op x K) : pIsNilI op x K' := by
  unfold pIsNilI at *
  (repeat' split at k) <;> first | exact k.elim | (simp_all; done) | (simp_all only []; exact hk _ k)
theorem qIsNilI_mono {K K' : AV → Prop} (hk : ∀ v, K v → K' v) (op : BinOp) (x : AV) (k : qIsNilI op x K) : qIsNilI op x K' := ⟨pIsNilI_mono hk op x k.out⟩
theorem pIsNilF_mono {K K' : AV → Prop} (hk : ∀ v, K v → K' v) (op : BinOp) (x : AV) (k : pIsNilF op x K) : pIsNilF op x K' := by
  unfold pIsNilF at *
  (repeat' split at k) <;> first | exact k.elim | (simp_all; done) | (simp_all only []; exact hk _ k)
theorem qIsNilF_mono {K K' : AV → Prop} (hk : ∀ v, K v → K' v) (op : BinOp) (x : AV) (k : qIsNilF op x K) : qIsNilF op x K' := ⟨pIsNilF_mono hk op x k.out⟩
theorem pIsNilS_mono {K K' : AV → Prop} (hk : ∀ v, K v → K' v) (op : BinOp) (x : AV) (k : pIsNilS op x K) : pIsNilS op x K' := by
  unfold pIsNilS at *
  split at k
  · exact nilK_mono hk _ _ k
  · split at k
    · rename_i h0; rw [if_pos h0]; exact ⟨nilK_mono hk _ _ k.1, nilK_mono hk _ _ k.2⟩
    · rename_i h0; rw [if_neg h0]; exact nilK_mono hk _ _ k
  · split at k
    · rename_i h0; rw [if_pos h0]; exact ⟨nilK_mono hk _ _ k.1, nilK_mono hk _ _ k.2⟩
    · rename_i h0; rw [if_neg h0]; exact nilK_mono hk _ _ k
  · exact k.elim
theorem qIsNilS_mono {K K' : AV → Prop} (hk : ∀ v, K v → K' v) (op : BinOp) (x : AV) (k : qIsNilS op x K) : qIsNilS op x K' := ⟨pIsNilS_mono hk op x k.out⟩
theorem pEntry_mono {K K' : AV → Prop} (hk : ∀ v, K v → K' v) (x : AV) (h : AHeap) (k : pEntry x h K) : pEntry x h K' := by
  unfold pEntry at *
  (repeat' split at k) <;> first | exact k.elim | (simp_all; done) | (simp_all only []; exact hk _ k)
theorem qEntry_mono {K K' : AV → Prop} (hk : ∀ v, K v → K' v) (x : AV) (h : AHeap) (k : qEntry x h K) : qEntry x h K' := ⟨pEntry_mono hk x h k.out⟩
theorem pEqS_mono {K K' : AV → Prop} (hk : ∀ v, K v → K' v) (op : BinOp) (ds : List TypeDesc) (x y : AV) (k : pEqS op ds x y K) : pEqS op ds x y K' := by
  unfold pEqS at *
  split at k
  · split at k
    · exact nilK_mono hk _ _ k
    · exact k.elim
  · exact k.elim
theorem qEqS_mono {K K' : AV → Prop} (hk : ∀ v, K v → K' v) (op : BinOp) (ds : List TypeDesc) (x y : AV) (k : qEqS op ds x y K) : qEqS op ds x y K' := ⟨pEqS_mono hk op ds x y k.out⟩
theorem eMapUpdate_mono {K K' : AHeap → Prop} (hk : ∀ v, K v → K' v) (d : TypeDesc) (x key v : AV) (h : AHeap) (k : eMapUpdate d x key v h K) : eMapUpdate d x key v h K' := by
  unfold eMapUpdate at *
  (repeat' split at k) <;> first | exact k.elim | exact hk _ k | (rw [if_pos (by assumption)]; exact hk _ k) | (rw [if_neg (by assumption)]; exact hk _ k) | (simp_all; done) | (simp only [*, if_true]; done) | (simp only [*, if_true]; exact hk _ k)
theorem qMapUpdate_mono {K K' : AHeap → Prop} (hk : ∀ v, K v → K' v) (d : TypeDesc) (x key v : AV) (h : AHeap) (k : qMapUpdate d x key v h K) : qMapUpdate d x key v h K' := ⟨eMapUpdate_mono hk d x key v h k.out⟩
theorem eMapEntry_mono {K K' : AV → AHeap → Prop} (hk : ∀ v h, K v h → K' v h) (d : TypeDesc) (z x key : AV) (h : AHeap) (k : eMapEntry d z x key h K) : eMapEntry d z x key h K' := by
  unfold eMapEntry at *
  (repeat' split at k) <;> first | exact k.elim | exact hk _ _ k | (rw [if_pos (by assumption)]; exact hk _ _ k) | (rw [if_neg (by assumption)]; exact hk _ _ k) | (simp_all; done) | (simp only [*, if_true]; done) | (simp only [*, if_true]; exact hk _ _ k)
theorem qMapEntry_mono {K K' : AV → AHeap → Prop} (hk : ∀ v h, K v h → K' v h) (d : TypeDesc) (z x key : AV) (h : AHeap) (k : qMapEntry d z x key h K) : qMapEntry d z x key h K' := ⟨eMapEntry_mono hk d z x key h k.out⟩
theorem eEntryStore_mono {K K' : AHeap → Prop} (hk : ∀ v, K v → K' v) (x st v : AV) (h : AHeap) (k : eEntryStore x st v h K) : eEntryStore x st v h K' := by
  unfold eEntryStore at *
  (repeat' split at k) <;> first | exact k.elim | exact hk _ k | (rw [if_pos (by assumption)]; exact hk _ k) | (rw [if_neg (by assumption)]; exact hk _ k) | (simp_all; done) | (simp only [*, if_true]; done) | (simp only [*, if_true]; exact hk _ k)
theorem qEntryStore_mono {K K' : AHeap → Prop} (hk : ∀ v, K v → K' v) (x st v : AV) (h : AHeap) (k : qEntryStore x st v h K) : qEntryStore x st v h K' := ⟨eEntryStore_mono hk x st v h k.out⟩
theorem eDelete_mono {K K' : AHeap → Prop} (hk : ∀ v, K v → K' v) (d : TypeDesc) (x key : AV) (h : AHeap) (k : eDelete d x key h K) : eDelete d x key h K' := by
  unfold eDelete at *
  (repeat' split at k) <;> first | exact k.elim | exact hk _ k | (rw [if_pos (by assumption)]; exact hk _ k) | (rw [if_neg (by assumption)]; exact hk _ k) | (simp_all; done) | (simp only [*, if_true]; done) | (simp only [*, if_true]; exact hk _ k)
theorem qDelete_mono {K K' : AHeap → Prop} (hk : ∀ v, K v → K' v) (d : TypeDesc) (x key : AV) (h : AHeap) (k : qDelete d x key h K) : qDelete d x key h K' := ⟨eDelete_mono hk d x key h k.out⟩
theorem eMakeMap_mono {K K' : AV → AHeap → Prop} (hk : ∀ v h, K v h → K' v h) (h : AHeap) (k : eMakeMap h K) : eMakeMap h K' := by
  exact hk _ _ k
theorem qMakeMap_mono {K K' : AV → AHeap → Prop} (hk : ∀ v h, K v h → K' v h) (h : AHeap) (k : qMakeMap h K) : qMakeMap h K' := ⟨eMakeMap_mono hk h k.out⟩
theorem eRangeS_mono {K K' : AV → AHeap → Prop} (hk : ∀ v h, K v h → K' v h) (x : AV) (h : AHeap) (k : eRangeS x h K) : eRangeS x h K' := by
  unfold eRangeS at *
  (repeat' split at k) <;> first | exact k.elim | exact hk _ _ k | (rw [if_pos (by assumption)]; exact hk _ _ k) | (rw [if_neg (by assumption)]; exact hk _ _ k) | (simp_all; done) | (simp only [*, if_true]; done) | (simp only [*, if_true]; exact hk _ _ k)
theorem qRangeS_mono {K K' : AV → AHeap → Prop} (hk : ∀ v h, K v h → K' v h) (x : AV) (h : AHeap) (k : qRangeS x h K) : qRangeS x h K' := ⟨eRangeS_mono hk x h k.out⟩
theorem eNextS_mono {K K' : AV → AHeap → Prop} (hk : ∀ v h, K v h → K' v h) (x : AV) (h : AHeap) (k : eNextS x h K) : eNextS x h K' := by
  unfold eNextS at *
  (repeat' split at k) <;> first | exact k.elim | exact hk _ _ k | (rw [if_pos (by assumption)]; exact hk _ _ k) | (rw [if_neg (by assumption)]; exact hk _ _ k) | (simp_all; done) | (simp only [*, if_true]; done) | (simp only [*, if_true]; exact hk _ _ k)
theorem qNextS_mono {K K' : AV → AHeap → Prop} (hk : ∀ v h, K v h → K' v h) (x : AV) (h : AHeap) (k : qNextS x h K) : qNextS x h K' := ⟨eNextS_mono hk x h k.out⟩
theorem eRangeM_mono {K K' : AV → AHeap → Prop} (hk : ∀ v h, K v h → K' v h) (x : AV) (h : AHeap) (k : eRangeM x h K) : eRangeM x h K' := by
  unfold eRangeM at *
  (repeat' split at k) <;> first | exact k.elim | exact hk _ _ k | (rw [if_pos (by assumption)]; exact hk _ _ k) | (rw [if_neg (by assumption)]; exact hk _ _ k) | (simp_all; done) | (simp only [*, if_true]; done) | (simp only [*, if_true]; exact hk _ _ k)
theorem qRangeM_mono {K K' : AV → AHeap → Prop} (hk : ∀ v h, K v h → K' v h) (x : AV) (h : AHeap) (k : qRangeM x h K) : qRangeM x h K' := ⟨eRangeM_mono hk x h k.out⟩
theorem eNextM_mono {K K' : AV → AHeap → Prop} (hk : ∀ v h, K v h → K' v h) (x : AV) (h : AHeap) (k : eNextM x h K) : eNextM x h K' := by
  unfold eNextM at *
  split at k
  · split at k
    · exact hk _ _ k
    · split at k
      · exact ⟨k.1, fun a => hk _ _ (k.2.1 a), fun e he hs => hk _ _ (k.2.2 e he hs)⟩
      · exact k.elim
    · exact k.elim
  · exact k.elim
theorem qNextM_mono {K K' : AV → AHeap → Prop} (hk : ∀ v h, K v h → K' v h) (x : AV) (h : AHeap) (k : qNextM x h K) : qNextM x h K' := ⟨eNextM_mono hk x h k.out⟩
theorem eStrBytes_mono {K K' : AV → AHeap → Prop} (hk : ∀ v h, K v h → K' v h) (x : AV) (h : AHeap) (k : eStrBytes x h K) : eStrBytes x h K' := by
  unfold eStrBytes at *
  (repeat' split at k) <;> first | exact k.elim | exact hk _ _ k | (rw [if_pos (by assumption)]; exact hk _ _ k) | (rw [if_neg (by assumption)]; exact hk _ _ k) | (simp_all; done) | (simp only [*, if_true]; done) | (simp only [*, if_true]; exact hk _ _ k)
theorem qStrBytes_mono {K K' : AV → AHeap → Prop} (hk : ∀ v h, K v h → K' v h) (x : AV) (h : AHeap) (k : qStrBytes x h K) : qStrBytes x h K' := ⟨eStrBytes_mono hk x h k.out⟩
theorem eMakeSlice_mono {K K' : AV → AHeap → Prop} (hk : ∀ v h, K v h → K' v h) (b : Nat) (z l c : AV) (h : AHeap) (k : eMakeSlice b z l c h K) : eMakeSlice b z l c h K' := by
  unfold eMakeSlice at *
  split at k
  · exact ⟨k.1, hk _ _ k.2⟩
  · exact k.elim
theorem qMakeSlice_mono {K K' : AV → AHeap → Prop} (hk : ∀ v h, K v h → K' v h) (b : Nat) (z l c : AV) (h : AHeap) (k : qMakeSlice b z l c h K) : qMakeSlice b z l c h K' := ⟨eMakeSlice_mono hk b z l c h k.out⟩
end Go.Proofs.YtmocchnodigmlaaGreatDoor.AL
