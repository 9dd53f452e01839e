import Derived.Test.YtmocchnodigmlaaGreatDoorAL23
set_option linter.all false
set_option autoImplicit true
set_option relaxedAutoImplicit true
set_option linter.unusedVariables false
set_option linter.unusedSimpArgs false
/-! What is run says what the operations come to. -/
namespace Go.Proofs.YtmocchnodigmlaaGreatDoor.AL
noncomputable section
variable [Tabs]
section
variable {P : Program} {e : ET} {env : Env} {t : HT} {n : Nat} {h : AHeap} {K : AV → HT → Nat → Bool} {call : CallB}

/-- Calls that are run tell of the calls. -/
def CallOk (P : Program) (call : CallB) : Prop := ∀ (f : FuncId) (args : List AV) (t : HT) (n : Nat) (h : AHeap) (K : AV → HT → Nat → Bool), HR t n h → call f args t n K = true → ACall P f args h (KH K)

theorem kh {r : AV} (hr : HR t n h) (k : K r t n = true) : KH K r h := ⟨t, n, hr, k⟩
theorem q1_ok (er : ER e env) (hr : HR t n h) {x : Operand} {g : AV → (AV → Bool) → Bool} {p : AV → (AV → Prop) → Prop} (hg : ∀ v K, g v K = true → p v fun r => K r = true) (hm : ∀ v K K', (∀ r, K r → K' r) → p v K → p v K')
    (k : (q1 x g).f call e t n K = true) : withO (opv env x) fun v => p v fun r => KH K r h := by
  obtain ⟨v, h1, k⟩ := compX_ok er k
  rw [h1]
  exact hm _ _ _ (fun r k => kh hr k) (hg _ _ k)
theorem q1t_ok (er : ER e env) (hr : HR t n h) {x : Operand} {g : AV → HT → (AV → Bool) → Bool} {p : AV → AHeap → (AV → Prop) → Prop} (hg : ∀ v K, g v t K = true → p v h fun r => K r = true) (hm : ∀ v K K', (∀ r, K r → K' r) → p v h K → p v h K')
    (k : (q1t x g).f call e t n K = true) : withO (opv env x) fun v => p v h fun r => KH K r h := by
  obtain ⟨v, h1, k⟩ := compX_ok er k
  rw [h1]
  exact hm _ _ _ (fun r k => kh hr k) (hg _ _ k)
theorem q2_ok (er : ER e env) (hr : HR t n h) {x y : Operand} {g : AV → AV → (AV → Bool) → Bool} {p : AV → AV → (AV → Prop) → Prop} (hg : ∀ v u K, g v u K = true → p v u fun r => K r = true) (hm : ∀ v u K K', (∀ r, K r → K' r) → p v u K → p v u K')
    (k : (q2 x y g).f call e t n K = true) : withO2 (opv env x) (opv env y) fun v u => p v u fun r => KH K r h := by
  obtain ⟨v, h1, k⟩ := compX_ok er k
  obtain ⟨u, h2, k⟩ := compX_ok er k
  rw [h1, h2]
  exact hm _ _ _ _ (fun r k => kh hr k) (hg _ _ _ k)
theorem q2t_ok (er : ER e env) (hr : HR t n h) {x y : Operand} {g : AV → AV → HT → (AV → Bool) → Bool} {p : AV → AV → AHeap → (AV → Prop) → Prop} (hg : ∀ v u K, g v u t K = true → p v u h fun r => K r = true) (hm : ∀ v u K K', (∀ r, K r → K' r) → p v u h K → p v u h K')
    (k : (q2t x y g).f call e t n K = true) : withO2 (opv env x) (opv env y) fun v u => p v u h fun r => KH K r h := by
  obtain ⟨v, h1, k⟩ := compX_ok er k
  obtain ⟨u, h2, k⟩ := compX_ok er k
  rw [h1, h2]
  exact hm _ _ _ _ (fun r k => kh hr k) (hg _ _ _ k)
theorem e1_ok (er : ER e env) (hr : HR t n h) {x : Operand} {g : AV → HT → Nat → (AV → HT → Nat → Bool) → Bool} {p : AV → AHeap → (AV → AHeap → Prop) → Prop} (hg : ∀ v K, g v t n K = true → p v h (KH K))
    (k : (e1 x g).f call e t n K = true) : withO (opv env x) fun v => p v h (KH K) := by
  obtain ⟨v, h1, k⟩ := compX_ok er k
  rw [h1]
  exact hg _ _ k
theorem e2_ok (er : ER e env) (hr : HR t n h) {x y : Operand} {g : AV → AV → HT → Nat → (AV → HT → Nat → Bool) → Bool} {p : AV → AV → AHeap → (AV → AHeap → Prop) → Prop} (hg : ∀ v u K, g v u t n K = true → p v u h (KH K))
    (k : (e2 x y g).f call e t n K = true) : withO2 (opv env x) (opv env y) fun v u => p v u h (KH K) := by
  obtain ⟨v, h1, k⟩ := compX_ok er k
  obtain ⟨u, h2, k⟩ := compX_ok er k
  rw [h1, h2]
  exact hg _ _ _ k
theorem s2_ok (er : ER e env) (hr : HR t n h) {x y : Operand} {g : AV → AV → HT → Nat → (HT → Nat → Bool) → Bool} {p : AV → AV → AHeap → (AHeap → Prop) → Prop} (hg : ∀ v u K, g v u t n K = true → p v u h (KS K))
    (k : (s2 x y g).f call e t n K = true) : withO2 (opv env x) (opv env y) fun v u => p v u h fun h' => KH K (.tup []) h' := by
  obtain ⟨v, h1, k⟩ := compX_ok er k
  obtain ⟨u, h2, k⟩ := compX_ok er k
  rw [h1, h2]
  exact hg _ _ _ k
theorem s3_ok (er : ER e env) (hr : HR t n h) {x y z : Operand} {g : AV → AV → AV → HT → Nat → (HT → Nat → Bool) → Bool} {p : AV → AV → AV → AHeap → (AHeap → Prop) → Prop} (hg : ∀ v u w K, g v u w t n K = true → p v u w h (KS K))
    (k : (s3 x y z g).f call e t n K = true) : withO2 (opv env x) (opv env y) fun v u => withO (opv env z) fun w => p v u w h fun h' => KH K (.tup []) h' := by
  obtain ⟨v, h1, k⟩ := compX_ok er k
  obtain ⟨u, h2, k⟩ := compX_ok er k
  obtain ⟨w, h3, k⟩ := compX_ok er k
  rw [h1, h2, h3]
  exact hg _ _ _ _ k
omit [Tabs] in
theorem no_ok {X : Prop} (k : noO.f call e t n K = true) : X := by cases k
theorem withO_imp {o : Option AV} {K K' : AV → Prop} (hk : ∀ v, K v → K' v) (k : withO o K) : withO o K' := by
  unfold withO at *; split at k
  · exact hk _ k
  · exact k.elim

theorem cBuild_ok (er : ER e env) (hr : HR t n h) {ty : TypeId} {is : List Nat} {xs : List Operand} (k : (cBuild P ty is xs).f call e t n K = true) : withL (opvs env xs) fun vs => aBuild P ty is vs fun r => KH K r h := by
  unfold cBuild at k
  split at k
  · split at k
    · split at k
      · obtain ⟨vs, h1, k⟩ := compXs_ok er k
        rw [h1]
        show aBuild P ty is vs _
        unfold aBuild
        simp only [*, if_true]
        split at k
        · simp only [*]
          exact qBuild_mono (fun r k => kh hr k) _ _ ⟨bBuild_ok _ _ k⟩
        · cases k
      · exact no_ok k
    · exact no_ok k
  · exact no_ok k
theorem cBuildSlice_ok (er : ER e env) (hr : HR t n h) {ty : TypeId} {m : Nat} {is : List Nat} {xs : List Operand} (k : (cBuildSlice P ty m is xs).f call e t n K = true) : withL (opvs env xs) fun vs => aBuildSlice P ty m is vs fun r => KH K r h := by
  unfold cBuildSlice at k
  split at k
  · split at k
    · split at k
      · split at k
        · rename_i hc
          obtain ⟨vs, h1, k⟩ := compXs_ok er k
          rw [h1]
          show aBuildSlice P ty m is vs _
          unfold aBuildSlice
          simp only [*, if_true]
          exact qBuildSlice_mono (fun r k => kh hr k) _ _ _ ⟨bBuildSlice_ok _ _ _ k⟩
        · exact no_ok k
      · exact no_ok k
    · exact no_ok k
  · exact no_ok k
theorem cCall_ok (hcall : CallOk P call) (er : ER e env) (hr : HR t n h) {c : Call} (k : (cCall P c).f call e t n K = true) : withL (opvs env c.args.toList) fun vs => (match c.callee with
    | .value f => withO (opv env f) fun v => ACallV P v vs h (KH K)
    | .builtin .len => (match vs, c.argTypes.toList with | [v], [t] => aLen P t v h fun r => KH K r h | _, _ => False)
    | .builtin .append => (match vs, c.argTypes.toList with | [v, u], [t, t2] => aAppend P t t2 v u h (KH K) | _, _ => False)
    | .builtin .max => (match vs with | [v, u] => qMax v u fun r => KH K r h | _ => False)
    | .builtin .min => (match vs with | [v, u] => qMin v u fun r => KH K r h | _ => False)
    | _ => False) := by
  have two : ∀ {x y : Operand} {F : AV → AV → Prop}, (withO2 (opv env x) (opv env y) F) → ∃ v u, opvs env [x, y] = some [v, u] ∧ F v u := fun {x y F} k => by
    obtain ⟨v, h1, k⟩ := withO_ok k
    obtain ⟨u, h2, k⟩ := withO_ok k
    exact ⟨v, u, by simp [opvs, h1, h2], k⟩
  have one : ∀ {x : Operand} {F : AV → Prop}, (withO (opv env x) F) → ∃ v, opvs env [x] = some [v] ∧ F v := fun {x F} k => by
    obtain ⟨v, h1, k⟩ := withO_ok k
    exact ⟨v, by simp [opvs, h1], k⟩
  unfold cCall at k
  split at k
  · rename_i f hc
    obtain ⟨vs, h1, k⟩ := compXs_ok er k
    obtain ⟨v, h2, k⟩ := compX_ok er k
    rw [h1]
    simp only [withL, hc, h2, withO]
    unfold callV at k
    unfold ACallV
    split at k
    · exact hcall _ _ _ _ _ _ hr k
    · cases k
  · rename_i hc
    split at k
    · rename_i x ty ha ht
      unfold cLen at k
      split at k
      · obtain ⟨v, h1, k⟩ := one (q1_ok er hr (p := fun v K => qLenS v K) (fun _ _ k => ⟨tLenS_ok k⟩) (fun _ _ _ hk k => qLenS_mono hk _ k) k)
        rw [ha, h1]
        simp only [withL, hc, aLen, *]
      · obtain ⟨v, h1, k⟩ := one (q1_ok er hr (p := fun v K => qLenL v K) (fun _ _ k => ⟨bLenL_ok _ k⟩) (fun _ _ _ hk k => qLenL_mono hk _ k) k)
        rw [ha, h1]
        simp only [withL, hc, aLen, *]
      · obtain ⟨v, h1, k⟩ := one (q1t_ok er hr (p := fun v h K => qLenM v h K) (fun _ _ k => ⟨tLenM_ok hr k⟩) (fun _ _ _ hk k => qLenM_mono hk _ _ k) k)
        rw [ha, h1]
        simp only [withL, hc, aLen, *]
      · exact no_ok k
    · exact no_ok k
  · rename_i hc
    split at k
    · rename_i x y ty ty2 ha ht
      unfold cAppend at k
      split at k
      · split at k
        · split at k
          · rename_i hok
            obtain ⟨v, u, h1, k⟩ := two (e2_ok er hr (p := fun v u h K => qAppend _ _ v u h K) (fun _ _ _ k => ⟨tAppend_ok hr k⟩) k)
            rw [ha, h1]
            simp only [withL, hc, aAppend, *, if_true]
          · exact no_ok k
        · exact no_ok k
      · exact no_ok k
    · exact no_ok k
  · rename_i hc
    split at k
    · rename_i x y ha
      obtain ⟨v, u, h1, k⟩ := two (q2_ok er hr (p := fun v u K => qMax v u K) (fun _ _ _ k => ⟨bMax_ok _ _ k⟩) (fun _ _ _ _ hk k => qMax_mono hk _ _ k) k)
      rw [ha, h1]
      simp only [withL, hc, *]
    · exact no_ok k
  · rename_i hc
    split at k
    · rename_i x y ha
      obtain ⟨v, u, h1, k⟩ := two (q2_ok er hr (p := fun v u K => qMin v u K) (fun _ _ _ k => ⟨bMin_ok _ _ k⟩) (fun _ _ _ _ hk k => qMin_mono hk _ _ k) k)
      rw [ha, h1]
      simp only [withL, hc, *]
    · exact no_ok k
  · exact no_ok k

theorem comp1_ok (hcall : CallOk P call) (er : ER e env) (hr : HR t n h) {o : Oper} (k : (comp1 P o.op).f call e t n K = true) : aop1 P env h o (KH K) := by
  obtain ⟨dst, op, ty, pos, after, guard⟩ := o
  cases op <;> simp only [comp1] at k <;> simp only [aop1]
  case move x => obtain ⟨v, h1, k⟩ := compX_ok er k; rw [h1]; exact kh hr k
  case assign x => obtain ⟨v, h1, k⟩ := compX_ok er k; rw [h1]; exact kh hr k
  case pick c a b =>
    obtain ⟨v, h1, k⟩ := compX_ok er k
    obtain ⟨u, h2, k⟩ := compX_ok er k
    obtain ⟨w, h3, k⟩ := compX_ok er k
    rw [h1, h2, h3]
    show ifB v (KH K u h) (KH K w h)
    unfold pickB at k
    unfold ifB
    split at k
    · exact kh hr k
    · exact kh hr k
    · cases k
  case alloc el =>
    unfold cNew at k
    unfold aNew
    split at k
    · split at k
      · split at k
        · simp only [*, if_true]; exact ⟨tNew_ok hr k⟩
        · exact no_ok k
      · exact no_ok k
    · exact no_ok k
  case box el x => exact e1_ok er hr (p := fun v h K => qBox v h K) (fun _ _ k => ⟨tBox_ok hr k⟩) k
  case build => exact cBuild_ok er hr k
  case buildSlice => exact cBuildSlice_ok er hr k
  case load ty x =>
    unfold cLoad at k
    split at k
    · split at k
      · refine withO_imp (fun v k => ?_) (q1t_ok er hr (p := fun v h K => qLoadA _ v h K) (fun _ _ k => ⟨tLoadA_ok hr k⟩) (fun _ _ _ hk k => qLoadA_mono hk _ _ _ k) k)
        unfold aLoad; simp only [*, if_true]
      · refine withO_imp (fun v k => ?_) (q1t_ok er hr (p := fun v h K => qLoad1 v h K) (fun _ _ k => ⟨tLoad1_ok hr k⟩) (fun _ _ _ hk k => qLoad1_mono hk _ _ k) k)
        unfold aLoad; simp only [*, Bool.false_eq_true, if_false]
    · exact no_ok k
  case store ty x u =>
    unfold cStore at k
    split at k
    · refine withO_imp (fun v k => withO_imp (fun y k => ?_) k) (s2_ok er hr (p := fun v u h K => qStore _ v u h K) (fun _ _ _ k => ⟨tStore_ok hr k⟩) k)
      unfold aStore; simp only [*]
    · exact no_ok k
  case nilCheck x => exact q1_ok er hr (p := fun v K => qNil v K) (fun _ _ k => ⟨bNil_ok _ k⟩) (fun _ _ _ hk k => qNil_mono hk _ k) k
  case binOp op ty x y yt =>
    unfold cBin at k
    unfold aBin
    split at k
    · simp only [*]; exact q2_ok er hr (p := fun v u K => qBinB op v u K) (fun _ _ _ k => ⟨bBinB_ok _ _ _ k⟩) (fun _ _ _ _ hk k => qBinB_mono hk _ _ _ k) k
    · simp only [*]; exact q2_ok er hr (p := fun v u K => qBinP op v u K) (fun _ _ _ k => ⟨bBinP_ok _ _ _ k⟩) (fun _ _ _ _ hk k => qBinP_mono hk _ _ _ k) k
    · simp only [*]; exact q2_ok er hr (p := fun v u K => qBin op v u K) (fun _ _ _ k => ⟨tBin_ok k⟩) (fun _ _ _ _ hk k => qBin_mono hk _ _ _ k) k
    · simp only [*]; exact q2_ok er hr (p := fun v u K => qBin op v u K) (fun _ _ _ k => ⟨tBin_ok k⟩) (fun _ _ _ _ hk k => qBin_mono hk _ _ _ k) k
    · simp only [*]; exact q2_ok er hr (p := fun v u K => qBin op v u K) (fun _ _ _ k => ⟨tBin_ok k⟩) (fun _ _ _ _ hk k => qBin_mono hk _ _ _ k) k
    · exact no_ok k
  case unOp op ty x => exact q1_ok er hr (p := fun v K => qUn op v K) (fun _ _ k => ⟨tUn_ok k⟩) (fun _ _ _ hk k => qUn_mono hk _ _ k) k
  case convert s d x =>
    unfold cConv at k
    unfold aConv
    split at k
    · simp only [*]; exact q1_ok er hr (p := fun v K => qConvII _ v K) (fun _ _ k => ⟨tConvII_ok k⟩) (fun _ _ _ hk k => qConvII_mono hk _ _ k) k
    · simp only [*]; exact q1_ok er hr (p := fun v K => qConvIF _ v K) (fun _ _ k => ⟨tConvIF_ok k⟩) (fun _ _ _ hk k => qConvIF_mono hk _ _ k) k
    · simp only [*]; exact q1_ok er hr (p := fun v K => qConvSS v K) (fun _ _ k => ⟨bConvSS_ok _ k⟩) (fun _ _ _ hk k => qConvSS_mono hk _ k) k
    · exact no_ok k
  case makeInterface ty x =>
    unfold cIface at k
    split at k
    · exact no_ok k
    · rename_i hn ht
      refine withO_imp (fun v k => ?_) (q1_ok er hr (p := fun v K => qIface ty v K) (fun _ _ k => ⟨bIface_ok _ _ k⟩) (fun _ _ _ hk k => qIface_mono hk _ _ k) k)
      unfold aIface
      split
      · rename_i he; rw [ht] at he; cases he; exact (hn _ rfl).elim
      · exact k
      · rename_i he; rw [ht] at he; cases he
    · exact no_ok k
  case makeFunc f fi ca =>
    obtain ⟨vs, h1, k⟩ := compXs_ok er k
    obtain ⟨ws, h2, k⟩ := compXs_ok er k
    rw [h1, h2]; exact kh hr k
  case slice ty x lo hi mx =>
    unfold cSlice at k
    split at k
    · obtain ⟨v, h1, k⟩ := compX_ok er k
      obtain ⟨l, h2, k⟩ := compXo_ok er k
      obtain ⟨u, h3, k⟩ := compXo_ok er k
      rw [h1, h2, h3]
      show aSlice P ty v l u none _
      unfold aSlice; simp only [*]
      exact qSliceS_mono (fun r k => kh hr k) _ _ _ ⟨tSliceS_ok k⟩
    · split at k
      · obtain ⟨v, h1, k⟩ := compX_ok er k
        obtain ⟨l, h2, k⟩ := compXo_ok er k
        obtain ⟨u, h3, k⟩ := compXo_ok er k
        rw [h1, h2, h3]
        show aSlice P ty v l u none _
        unfold aSlice; simp only [*]
        exact qSliceL_mono (fun r k => kh hr k) _ _ _ _ ⟨bSliceL_ok _ _ _ _ k⟩
      · exact no_ok k
    · obtain ⟨v, h1, k⟩ := compX_ok er k
      obtain ⟨l, h2, k⟩ := compXo_ok er k
      obtain ⟨u, h3, k⟩ := compXo_ok er k
      obtain ⟨m, h4, k⟩ := compX_ok er k
      rw [h1, h2, h3]
      simp only [optO, h4]
      show aSlice P ty v l u (some m) _
      split at k
      · unfold aSlice; simp only [*]
        exact qSliceZ_mono (fun r k => kh hr k) _ ⟨bSliceZ_ok _ k⟩
      · cases k
    · exact no_ok k
  case fieldAddr ty x f =>
    unfold cFieldAddr at k
    split at k
    · split at k
      · split at k
        · split at k
          · exact no_ok k
          · rename_i hz
            refine withO_imp (fun v k => ?_) (q1_ok er hr (p := fun v K => qFieldAddr _ v K) (fun _ _ k => ⟨tFieldAddr_ok k⟩) (fun _ _ _ hk k => qFieldAddr_mono hk _ _ k) k)
            unfold aFieldAddr
            simp only [*]
            rw [if_neg (by simp)]
            trivial
        · exact no_ok k
      · exact no_ok k
    · exact no_ok k
  case field ty x f =>
    unfold cField cPart at k
    split at k
    · split at k
      · split at k
        · split at k
          · refine withO_imp (fun v k => ?_) (q1_ok er hr (p := fun v K => qPartA _ _ v K) (fun _ _ k => ⟨bPartA_ok _ _ _ k⟩) (fun _ _ _ hk k => qPartA_mono hk _ _ _ k) k)
            unfold aField aPart; simp only [*, if_true]
          · refine withO_imp (fun v k => ?_) (q1_ok er hr (p := fun v K => qPart1 _ v K) (fun _ _ k => ⟨bPart1_ok _ _ k⟩) (fun _ _ _ hk k => qPart1_mono hk _ _ k) k)
            unfold aField aPart; simp only [*, Bool.false_eq_true, if_false]
        · exact no_ok k
      · exact no_ok k
    · exact no_ok k
  case indexAddr ty x i =>
    unfold cIndexAddr at k
    unfold aIndexAddr
    split at k
    · split at k
      · simp only [*]; exact q2_ok er hr (p := fun v u K => qIndexAddr _ v u K) (fun _ _ _ k => ⟨tIndexAddr_ok k⟩) (fun _ _ _ _ hk k => qIndexAddr_mono hk _ _ _ k) k
      · exact no_ok k
    · split at k
      · simp only [*]; exact q2_ok er hr (p := fun v u K => qIndexAddrA _ _ v u K) (fun _ _ _ k => ⟨bIndexAddrA_ok _ _ _ _ k⟩) (fun _ _ _ _ hk k => qIndexAddrA_mono hk _ _ _ _ k) k
      · exact no_ok k
    · exact no_ok k
  case index ty x i =>
    unfold cIndex at k
    unfold aIndex
    split at k
    · simp only [*]; exact q2_ok er hr (p := fun v u K => qIndexS v u K) (fun _ _ _ k => ⟨tIndexS_ok k⟩) (fun _ _ _ _ hk k => qIndexS_mono hk _ _ k) k
    · exact no_ok k
  case extract x i => exact q1_ok er hr (p := fun v K => qExtract i v K) (fun _ _ k => ⟨bExtract_ok _ _ k⟩) (fun _ _ _ hk k => qExtract_mono hk _ _ k) k
  case call c => exact cCall_ok hcall er hr k
  all_goals exact no_ok k

theorem cMapT_ok {ty : TypeId} {g : TypeDesc → Value → ClO} {F : TypeDesc → Value → Prop} (hg : ∀ d z, (g d z).f call e t n K = true → F d z) (k : (cMapT P ty g).f call e t n K = true) : mapT P ty F := by
  unfold cMapT at k
  unfold mapT
  split at k
  · split at k
    · split at k
      · split at k
        · have k := hg _ _ k; simp only [*, if_true]
        · exact no_ok k
      · exact no_ok k
    · exact no_ok k
  · exact no_ok k
theorem cKeyT_ok {ty : TypeId} {g : TypeDesc → ClO} {F : TypeDesc → Prop} (hg : ∀ d, (g d).f call e t n K = true → F d) (k : (cKeyT P ty g).f call e t n K = true) : keyT P ty F := by
  unfold cKeyT at k
  unfold keyT
  split at k
  · split at k
    · have k := hg _ k; simp only [*]
    · exact no_ok k
  · exact no_ok k

theorem compN_ok (er : ER e env) (hr : HR t n h) {o : Oper} (k : (compN P o.op).f call e t n K = true) : aopN P env h o (KH K) := by
  obtain ⟨dst, op, ty, pos, after, guard⟩ := o
  have wmapT : ∀ {ty : TypeId} {F : TypeDesc → Value → AV → AV → Prop} {x y : Operand}, mapT P ty (fun d z => withO2 (opv env x) (opv env y) (F d z)) → withO2 (opv env x) (opv env y) fun a b => mapT P ty fun d z => F d z a b := fun {ty F x y} k => by
    obtain ⟨kt, et, d, i, z, h1, h2, h3, h4, h5, k⟩ := mapT_ok k
    refine withO_imp (fun v k => withO_imp (fun y k => ?_) k) k
    unfold mapT
    simp only [h1, h2, h3, h4, h5, if_true]
    exact k
  have wkeyT3 : ∀ {ty : TypeId} {F : TypeDesc → AV → AV → AV → Prop} {x y z : Operand}, keyT P ty (fun d => withO2 (opv env x) (opv env y) fun a b => withO (opv env z) fun c => F d a b c) → withO2 (opv env x) (opv env y) fun a b => withO (opv env z) fun c => keyT P ty fun d => F d a b c := fun {ty F x y z} k => by
    obtain ⟨kt, et, d, h1, h2, k⟩ := keyT_ok k
    refine withO_imp (fun v k => withO_imp (fun y k => withO_imp (fun w k => ?_) k) k) k
    unfold keyT
    simp only [h1, h2]
    exact k
  cases op <;> simp only [compN] at k <;> simp only [aopN]
  case makeMap ty re =>
    cases re with
    | none => exact ⟨tMakeMap_ok hr k⟩
    | some x => exact no_ok k
  case lookup ty x i ok =>
    refine wmapT (cMapT_ok (fun d z k => ?_) k)
    exact q2t_ok er hr (p := fun v u h K => qLookup d ok (ofV z) v u h K) (fun _ _ _ k => ⟨tLookup_ok hr k⟩) (fun _ _ _ _ hk k => qLookup_mono hk _ _ _ _ _ _ k) k
  case mapUpdate ty m kk v =>
    refine wkeyT3 (cKeyT_ok (fun d k => ?_) k)
    exact s3_ok er hr (p := fun v u w h K => qMapUpdate d v u w h K) (fun _ _ _ _ k => ⟨tMapUpdate_ok hr k⟩) k
  case insert ty m kk v =>
    refine wkeyT3 (cKeyT_ok (fun d k => ?_) k)
    exact s3_ok er hr (p := fun v u w h K => qMapUpdate d v u w h K) (fun _ _ _ _ k => ⟨tMapUpdate_ok hr k⟩) k
  case mapEntry ty m kk =>
    refine wmapT (cMapT_ok (fun d z k => ?_) k)
    exact e2_ok er hr (p := fun v u h K => qMapEntry d (ofV z) v u h K) (fun _ _ _ k => ⟨tMapEntry_ok hr k⟩) k
  case entryStore ty m s v => exact s3_ok er hr (p := fun v u w h K => qEntryStore v u w h K) (fun _ _ _ _ k => ⟨tEntryStore_ok hr k⟩) k
  case range ty x =>
    split at k
    · simp only [*]; exact e1_ok er hr (p := fun v h K => qRangeS v h K) (fun _ _ k => ⟨tRangeS_ok hr k⟩) k
    · simp only [*]; exact e1_ok er hr (p := fun v h K => qRangeM v h K) (fun _ _ k => ⟨tRangeM_ok hr k⟩) k
    · exact no_ok k
  case next x b =>
    cases b
    · exact e1_ok er hr (p := fun v h K => qNextM v h K) (fun _ _ k => ⟨tNextM_ok hr k⟩) k
    · exact e1_ok er hr (p := fun v h K => qNextS v h K) (fun _ _ k => ⟨tNextS_ok hr k⟩) k
  case entry x => exact q1t_ok er hr (p := fun v h K => qEntry v h K) (fun _ _ k => ⟨tEntry_ok hr k⟩) (fun _ _ _ hk k => qEntry_mono hk _ _ k) k
  case makeSlice ty l c =>
    split at k
    · split at k
      · split at k
        · split at k
          · refine withO_imp (fun v k => withO_imp (fun y k => ?_) k) (e2_ok er hr (p := fun v u h K => qMakeSlice _ _ v u h K) (fun _ _ _ k => ⟨tMakeSlice_ok hr k⟩) k)
            simp only [*, if_true]
          · exact no_ok k
        · exact no_ok k
      · exact no_ok k
    · exact no_ok k
  case convert s d x =>
    split at k
    · split at k
      · simp only [*, if_true]; exact q1t_ok er hr (p := fun v h K => qBytesStr v h K) (fun _ _ k => ⟨tBytesStr_ok hr k⟩) (fun _ _ _ hk k => qBytesStr_mono hk _ _ k) k
      · exact no_ok k
    · split at k
      · simp only [*, if_true]; exact e1_ok er hr (p := fun v h K => qStrBytes v h K) (fun _ _ k => ⟨tStrBytes_ok hr k⟩) k
      · exact no_ok k
    · exact no_ok k
  case binOp op ty x y yt =>
    split at k
    · split at k
      · split at k
        · simp only [*, if_true]
          exact q2_ok er hr (p := fun v u K => qEqS op _ v u K) (fun _ _ _ k => ⟨bEqS_ok _ _ _ _ k⟩) (fun _ _ _ _ hk k => qEqS_mono hk _ _ _ _ k) k
        · exact no_ok k
      · exact no_ok k
    · rename_i hns
      have : withO (opv env x) fun a => aNilCmp P op ty a y fun r => KH K r h := by
        unfold cNilCmp at k
        unfold aNilCmp
        split at k
        · simp only [*]; exact q1_ok er hr (p := fun v K => qIsNilS op v K) (fun _ _ k => ⟨bIsNilS_ok _ _ k⟩) (fun _ _ _ hk k => qIsNilS_mono hk _ _ k) k
        · simp only [*]; exact q1_ok er hr (p := fun v K => qIsNilM op v K) (fun _ _ k => ⟨bIsNilM_ok _ _ k⟩) (fun _ _ _ hk k => qIsNilM_mono hk _ _ k) k
        · simp only [*]; exact q1_ok er hr (p := fun v K => qIsNilI op v K) (fun _ _ k => ⟨bIsNilI_ok _ _ k⟩) (fun _ _ _ hk k => qIsNilI_mono hk _ _ k) k
        · simp only [*]; exact q1_ok er hr (p := fun v K => qIsNilF op v K) (fun _ _ k => ⟨bIsNilF_ok _ _ k⟩) (fun _ _ _ hk k => qIsNilF_mono hk _ _ k) k
        · exact no_ok k
      split
      · rename_i he; exact (hns _ he).elim
      · exact this
  case call c =>
    split at k
    · rename_i hc
      simp only [hc]
      split at k
      · rename_i m kk ty rest ha ht
        obtain ⟨kt, et, d, h1, h2, k⟩ := keyT_ok (cKeyT_ok (F := fun d => withO2 (opv env m) (opv env kk) fun a b => qDelete d a b h fun h' => KH K (.tup []) h') (fun d k => s2_ok er hr (p := fun v u h K => qDelete d v u h K) (fun _ _ _ k => ⟨tDelete_ok hr k⟩) k) k)
        obtain ⟨a, h3, k⟩ := withO_ok k
        obtain ⟨b, h4, k⟩ := withO_ok k
        rw [ha, ht]
        simp only [opvs, h3, h4, withL]
        unfold keyT
        simp only [h1, h2]
        exact k
      · exact no_ok k
    · exact no_ok k
  all_goals exact no_ok k

theorem compB_ok (hcall : CallOk P call) (er : ER e env) (hr : HR t n h) {o : Oper} (k : (compB P o.op).f call e t n K = true) : aopB P env h o (KH K) := by
  unfold compB at k
  unfold aopB
  split at k
  · rename_i hn; rw [if_pos hn]; exact compN_ok er hr k
  · rename_i hn; rw [hn, if_neg (by simp)]; exact comp1_ok hcall er hr k
omit [Tabs] in
theorem idxL_eq (c : UInt8) : ∀ (l : List UInt8) (i : Nat), idxL l c i = if Lib.indexByte l c = -1 then -1 else Lib.indexByte l c + i
  | [], i => rfl
  | b :: l, i => by
    have ih := idxL_eq c l (i + 1)
    have hge := Lib.indexByte_ge l c
    have e1 : idxL (b :: l) c i = if (b == c) = true then (i : Int) else idxL l c (i + 1) := by
      show @Bool.casesOn (fun _ => Int) (uEq b c) (idxL l c (i + 1)) (.ofNat i) = _
      rw [uEq_eq]
      cases hb : (b == c) <;> rfl
    rw [e1, ih]
    simp only [Lib.indexByte]
    by_cases hb : (b == c) = true
    · simp [hb]
    · simp only [hb, if_false]
      by_cases h1 : Lib.indexByte l c = -1
      · simp [h1]
      · rw [if_neg h1, if_neg (show ¬ (Lib.indexByte l c == -1) = true by simpa using h1)]
        simp only [Bool.false_eq_true, if_false]
        rw [if_neg (by omega)]; omega
omit [Tabs] in
theorem cntL_eq (c : UInt8) : ∀ (l : List UInt8) (n : Nat), cntL l c n = n + Lib.countByte l c
  | [], n => rfl
  | b :: l, n => by
    have e1 : cntL (b :: l) c n = cntL l c (if (b == c) = true then n + 1 else n) := by
      show cntL l c (@Bool.casesOn (fun _ => Nat) (uEq b c) n (n + 1)) = _
      rw [uEq_eq]
      cases hb : (b == c) <;> rfl
    rw [e1, cntL_eq c l]
    simp only [Lib.countByte, List.count_cons]
    cases hb : (b == c) <;> simp <;> omega
omit [Tabs] in
theorem tExt_ok {x : Ext} {vs : List AV} {K : AV → Bool} (k : tExt x vs K = true) : pExt x vs fun r => K r = true := by
  unfold tExt at k
  split at k
  · rw [fI_eq, idxL_eq] at k
    show K (I (Lib.indexByte _ _)) = true
    split at k
    · rename_i h1; rw [h1]; exact k
    · simpa using k
  · rw [fN_eq, cntL_eq] at k
    show K (I (Lib.countByte _ _)) = true
    simpa using k
  · exact k
  · rw [fN_eq] at k; exact k
  · cases k
omit [Tabs] in
theorem minN_eq (m n : Nat) : minN m n = Nat.min m n := by
  show @Bool.casesOn (fun _ => Nat) (Nat.ble m n) n m = min m n
  cases h : Nat.ble m n
  · have : ¬ m ≤ n := fun e => by rw [Nat.ble_eq_true_of_le e] at h; cases h
    exact (Nat.min_eq_right (Nat.le_of_not_le this)).symm
  · exact (Nat.min_eq_left (Nat.le_of_ble_eq_true h)).symm
theorem tCopy_ok (r : HR t n h) {size : Nat} {v x : AV} {K : AV → HT → Nat → Bool} (k : tCopy size v x t n K = true) : eCopy size v x h (KH K) := by
  unfold tCopy at k
  unfold eCopy
  split at k
  · cases k
  · rename_i m xs hx
    simp only [tElems_eq r hx]
    split at k
    · split at k
      · rename_i cs hc
        simp only [r.at_ _ _ hc]
        simp only [Bool.and_eq_true, decide_eq_true_eq, fN_eq, minN_eq] at k
        exact ⟨k.1, _, _, r.set hc, k.2⟩
      · cases k
    · rw [bA_eq, minN_eq] at k
      exact ⟨Nat.eq_of_beq_eq_true k.1, _, _, r, k.2⟩
    · rw [bA_eq, minN_eq] at k
      exact ⟨Nat.eq_of_beq_eq_true k.1, _, _, r, k.2⟩
    · cases k
theorem tClear_ok (r : HR t n h) {size : Nat} {u v : AV} {K : HT → Nat → Bool} (k : tClear size u v t n K = true) : eClear size u v h (KS K) := by
  unfold tClear at k
  unfold eClear
  split at k
  · split at k
    · rename_i cs hc
      simp only [r.at_ _ _ hc]
      simp only [Bool.and_eq_true, decide_eq_true_eq] at k
      exact ⟨k.1, _, _, r.set hc, k.2⟩
    · cases k
  · exact ⟨_, _, r, k⟩
  · exact ⟨_, _, r, k⟩
  · cases k
theorem cRowT_ok {ts : Array TypeId} {F : Value → TypeInfo → ClO} {K : AV → HT → Nat → Bool} {T : Value → TypeInfo → Prop} (hk : ∀ z i, (F z i).f call e t n K = true → T z i) (k : (cRowT P ts F).f call e t n K = true) : rowT P ts T := by
  unfold cRowT at k
  unfold rowT
  split at k
  · split at k
    · split at k
      · split at k
        · split at k
          · simp only [*, if_true]
          · exact no_ok k
        · exact no_ok k
      · exact no_ok k
    · exact no_ok k
  · exact no_ok k
theorem withL_rowT {ls : List Operand} {env : Env} {ts : Array TypeId} {T : List AV → Value → TypeInfo → Prop} {vs : List AV} (h : opvs env ls = some vs) (k : rowT P ts (T vs)) : withL (opvs env ls) fun vs => rowT P ts (T vs) := by
  rw [h]; exact k
def TabOk (tb : TabB) : Prop := ∀ g cs, tb g = some cs → Tabs.tab g = some cs
theorem compXX_ok {tb : TabB} (ht : TabOk tb) (er : ER e env) (hr : HR t n h) {o : Oper} (k : (compXX P tb o.op).f call e t n K = true) : aopX P env h o (KH K) := by
  obtain ⟨dst, op, ty, pos, after, guard⟩ := o
  cases op <;> simp only [compXX] at k <;> simp only [aopX] <;> try exact no_ok k
  case call c =>
    split at k
    · rename_i f hc
      simp only [hc]
      split at k
      · rename_i x hx
        obtain ⟨vs, h1, k⟩ := compXs_ok er k
        rw [h1]
        simp only [withL, hx]
        exact ⟨pExt_mono (fun r k => kh hr k) (tExt_ok k)⟩
      · exact no_ok k
    · rename_i hc
      simp only [hc]
      cases hvs : opvs env c.args.toList with
      | none =>
        exfalso
        have : rowT P c.argTypes fun _ _ => False := cRowT_ok (fun z i k => by
          split at k
          · rename_i x y ha
            simp only [e2] at k
            obtain ⟨v, h1, k⟩ := compX_ok er k
            obtain ⟨u, h2, k⟩ := compX_ok er k
            rw [ha] at hvs; simp [opvs, h1, h2] at hvs
          · exact no_ok k) k
        obtain ⟨_, _, _, _, _, _, _, _, _, hf⟩ := rowT_ok this
        exact hf
      | some vs =>
        refine cRowT_ok (fun z i k => ?_) k
        split at k
        · rename_i x y ha
          simp only [e2] at k
          obtain ⟨v, h1, k⟩ := compX_ok er k
          obtain ⟨u, h2, k⟩ := compX_ok er k
          rw [ha] at hvs
          simp only [opvs, h1, h2, Option.some.injEq] at hvs
          subst hvs
          exact ⟨tCopy_ok hr k⟩
        · exact no_ok k
    · rename_i hc
      simp only [hc]
      cases hvs : opvs env c.args.toList with
      | none =>
        exfalso
        have : rowT P c.argTypes fun _ _ => False := cRowT_ok (fun z i k => by
          split at k
          · rename_i x ha
            obtain ⟨v, h1, k⟩ := compX_ok er k
            rw [ha] at hvs; simp [opvs, h1] at hvs
          · exact no_ok k) k
        obtain ⟨_, _, _, _, _, _, _, _, _, hf⟩ := rowT_ok this
        exact hf
      | some vs =>
        refine cRowT_ok (fun z i k => ?_) k
        split at k
        · rename_i x ha
          obtain ⟨v, h1, k⟩ := compX_ok er k
          rw [ha] at hvs
          simp only [opvs, h1, Option.some.injEq] at hvs
          subst hvs
          exact ⟨tClear_ok hr k⟩
        · exact no_ok k
    · exact no_ok k
  case indexAddr ty x i =>
    cases x <;> simp only at k ⊢ <;> try exact no_ok k
    split at k
    · rename_i cs hg
      simp only [ht _ _ hg]
      split at k
      · split at k
        · refine withO_imp (fun v k => ?_) (q1_ok er hr (p := fun v K => qIndexAddrA _ _ (.cptr cs) v K) (fun _ _ k => ⟨bIndexAddrA_ok _ _ _ _ k⟩) (fun _ _ _ hk k => qIndexAddrA_mono hk _ _ _ _ k) k)
          unfold aIndexAddr; simp only [*]
        · exact no_ok k
      · exact no_ok k
    · exact no_ok k
  case load ty x =>
    cases x <;> simp only at k ⊢ <;> try exact no_ok k
    split at k
    · rename_i cs hg
      simp only [ht _ _ hg]
      unfold cLoadC at k
      unfold aLoad
      split at k
      · split at k
        · simp only [*, if_true]; exact qLoadA_mono (fun r k => kh hr k) _ _ _ ⟨tLoadA_ok hr k⟩
        · simp only [*, Bool.false_eq_true, if_false]; exact qLoad1_mono (fun r k => kh hr k) _ _ ⟨tLoad1_ok hr k⟩
      · exact no_ok k
    · exact no_ok k
theorem compO_ok {tb : TabB} (ht : TabOk tb) (hcall : CallOk P call) (er : ER e env) (hr : HR t n h) {o : Oper} (k : (compO P tb o.op).f call e t n K = true) : aop P env h o (KH K) := by
  unfold compO at k
  unfold aop
  split at k
  · rename_i hn; rw [if_pos hn]; exact compXX_ok ht er hr k
  · rename_i hn; rw [hn, if_neg (by simp)]; exact compB_ok hcall er hr k
end
end
end Go.Proofs.YtmocchnodigmlaaGreatDoor.AL
