import Derived.Test.YtamfimhaimaeiaaGreatDoorT8toTF
import Derived.KernelRfl
import Derived.Test.YtamfimhaimaeiaaGreatDoorAI4toSI
import Derived.Test.YtamfimhaimaeiaaGreatDoorAL32toAL34
set_option linter.all false
set_option autoImplicit true
set_option relaxedAutoImplicit true
set_option maxRecDepth 100000
namespace Go.Proofs.YtamfimhaimaeiaaGreatDoor.AL
noncomputable section
structure G2 where
  m : StM
  t0 : TxM
  t1 : TxM
  d0 : DoneM
  d1 : DoneM
  n : Nat
def stepG (g : G2) (k : Nat) : G2 :=
  if k = 0 then (match stepT g.t0 g.m with
    | (none, t', m') => { g with t0 := t', m := m' }
    | (some d, t', m') => { g with t0 := t', m := m', d0 := d, n := g.n + 1 })
  else (match stepT g.t1 g.m with
    | (none, t', m') => { g with t1 := t', m := m' }
    | (some d, t', m') => { g with t1 := t', m := m', d1 := d, n := g.n + 1 })
def fmS : Str := [102, 109]
def newS : Str := [110, 101, 119]
def endG (app : Bool) (g : G2) : Bool :=
  decide ((rowK g.m fmS).length < 1000000) && (decide ((rowK g.m [100]).length < 1000000) && (decide (((readM g.m [100] g.m.now).getD []).length < 1000000000) &&
  (decide (g.n = 2) && (decide (g.d0.e = 0) && (decide ((readM g.m fmS g.m.now).isSome = decide ((partsM ((readM g.m [100] g.m.now).getD [])).length = 1)) &&
  (if g.d1.e = 9 then app && !(readM g.m fmS g.m.now).isSome
   else decide (g.d1.e = 0) && (if g.d0.stamp < g.d1.stamp then !app && ((readM g.m fmS g.m.now).isSome && decide ((readM g.m fmS g.m.now).getD [] = newS)) else !(readM g.m fmS g.m.now).isSome)))))))
def okG (g : G2) (k : Nat) : Bool := if k = 0 then stepB g.t0 g.m else stepB g.t1 g.m
def explB (app : Bool) : Nat → Nat → G2 → Bool
  | 0, _, g => endG app g
  | f + 1, i, g => if 2 ≤ g.n then endG app g
    else if i < 10 then (okG g 0 && explB app f (i + 1) (stepG g 0)) && (okG g 1 && explB app f (i + 1) (stepG g 1))
    else okG g (i % 2) && explB app f (i + 1) (stepG g (i % 2))
section
variable [Tabs]
variable {h0 h : AHeap} {M : List Nat} {L R R' : Own} {K : AV → Prop} {KH : QT} {KS' : AHeap → Prop} {Q : QT} {i : Nat} {m : StM}
theorem st_ixA {n size p o j : Nat} (hj : j < n) (k : K (.ptr p (o + j * size))) : qIndexAddrA n size (.ptr p o) (I (j : Nat)) K := ⟨by
  simp only [pIndexAddrA, asI, Int.toNat_natCast]
  exact ⟨⟨by omega, by omega⟩, k⟩⟩
theorem st_ixF2 {a b : AV} {j : Nat} (hj : j < 2) (k : K (.cptr (if j = 0 then [a, b] else [b]))) : qIndexAddr 1 (.full 2 [a, b]) (I (j : Nat)) K := ⟨by
  simp only [pIndexAddr, asI, Int.toNat_natCast, Nat.mul_one]
  refine ⟨⟨by omega, by omega⟩, ?_⟩
  rcases (show j = 0 ∨ j = 1 by omega) with rfl | rfl <;> exact k⟩
def GS (h0 : AHeap) (h : AHeap) (i pb p0 p1 pa : Nat) (g : G2) (R : Own) : Prop := ∃ E0 E1, TxO i pb p0 g.t0 E0 ∧ TxO i pb p1 g.t1 E1 ∧ StoS h0 [] h i g.m ((pa, true, .cells (doneL g.d0 ++ doneL g.d1)) :: (E0 ++ (E1 ++ R)))
theorem gone_j17 (hI : IndexOk) (hS : SortOk) (hks : KVOk) {pb p0 p1 pa : Nat} {g : G2} {k : Nat} {n j : Nat} (hk : k < 2) (hn : n = g.n) (hn2 : n < 2) (hj : j < 40) (hb : ∃ e ∈ R, e.1 = pb) (ok : okG g k = true) (s : GS h0 h i pb p0 p1 pa g R) {nx : NT}
    (q : ∀ h', GS h0 h' i pb p0 p1 pa (stepG g k) R → nx [I ((stepG g k).n : Nat), I ((j + 1 : Nat) : Int)] h') : law10_TxnGone_j17 (I (k : Nat)) (I (n : Nat)) (I (j : Nat)) (.ptr pa 0) (.full 2 [.ptr p0 0, .ptr p1 0]) h nx := by
  subst hn
  obtain ⟨E0, E1, o0, o1, s⟩ := s
  obtain ⟨e, he, hpb⟩ := hb
  unfold law10_TxnGone_j17
  refine st_ixF2 hk ?_
  rcases (show k = 0 ∨ k = 1 by omega) with rfl | rfl
  · refine st_cload ?_
    have ok : stepB g.t0 g.m = true := ok
    have s := s.perm (R' := E0 ++ ((pa, true, .cells (doneL g.d0 ++ doneL g.d1)) :: (E1 ++ R))) List.perm_middle.symm
    refine step_sp hI hS hks ⟨e, by simp [he], hpb⟩ (stepB_ok ok) o0 s fun E h o s => ?_
    refine st_ext rfl (st_ext rfl ?_)
    refine so_new s fun p13 h s => ?_
    refine so_store s .head rfl rfl rfl (nle rfl) fun h s => ?_
    unfold stepG at q
    rw [if_pos rfl] at q
    generalize stepT g.t0 g.m = z at q o s ⊢
    obtain ⟨d, t2, m2⟩ := z
    cases d with
    | none =>
      refine st_if (fun h => by cases h) (fun _ => ?_)
      refine st_add (by omega) ?_
      have s := (s.sub ((List.Sublist.refl _).cons _)).perm (R' := (pa, true, .cells (doneL g.d0 ++ doneL g.d1)) :: (E ++ (E1 ++ R))) List.perm_middle
      exact q h ⟨E, E1, o, o1, s⟩
    | some d =>
      refine st_if (fun _ => ?_) (fun h => by cases h)
      refine so_loadA s (.head _) (nle rfl) ?_
      refine st_ixA (by decide) ?_
      have s := (s.sub ((List.Sublist.refl _).cons _)).perm (R' := (pa, true, .cells (doneL g.d0 ++ doneL g.d1)) :: (E ++ (E1 ++ R))) List.perm_middle
      refine so_store s .head rfl rfl rfl (nle rfl) fun h s => ?_
      refine st_add (by omega) (st_add (by omega) ?_)
      exact q h ⟨E, E1, o, o1, s⟩
  · refine st_cload ?_
    have ok : stepB g.t1 g.m = true := ok
    have s := s.perm (R' := E1 ++ ((pa, true, .cells (doneL g.d0 ++ doneL g.d1)) :: (E0 ++ R))) (by
      refine List.Perm.trans ?_ List.perm_middle.symm
      exact .cons _ (List.perm_append_comm_assoc _ _ _))
    refine step_sp hI hS hks ⟨e, by simp [he], hpb⟩ (stepB_ok ok) o1 s fun E h o s => ?_
    refine st_ext rfl (st_ext rfl ?_)
    refine so_new s fun p13 h s => ?_
    refine so_store s .head rfl rfl rfl (nle rfl) fun h s => ?_
    unfold stepG at q
    rw [if_neg (by decide)] at q
    have pp : (E ++ ((pa, true, AObj.cells (doneL g.d0 ++ doneL g.d1)) :: (E0 ++ R))).Perm ((pa, true, .cells (doneL g.d0 ++ doneL g.d1)) :: (E0 ++ (E ++ R))) := by
      refine List.perm_middle.trans ?_
      exact .cons _ (List.perm_append_comm_assoc _ _ _)
    generalize stepT g.t1 g.m = z at q o s ⊢
    obtain ⟨d, t2, m2⟩ := z
    cases d with
    | none =>
      refine st_if (fun h => by cases h) (fun _ => ?_)
      refine st_add (by omega) ?_
      exact q h ⟨E0, E, o0, o, (s.sub ((List.Sublist.refl _).cons _)).perm pp⟩
    | some d =>
      refine st_if (fun _ => ?_) (fun h => by cases h)
      refine so_loadA s (.head _) (nle rfl) ?_
      refine st_ixA (by decide) ?_
      have s := (s.sub ((List.Sublist.refl _).cons _)).perm pp
      refine so_store s .head rfl rfl rfl (nle rfl) fun h s => ?_
      refine st_add (by omega) (st_add (by omega) ?_)
      exact q h ⟨E0, E, o0, o, s⟩
def goneFin (s9 s5 s1 nn : AV) (Q : QT) (h : AHeap) : Prop :=
  C fn_store_Store_Now [s5] h fun t96 h18 =>
  C fn_store_Store_Read [s5, (S ⟨#[102, 109]⟩), t96] h18 fun t97 h19 =>
  qExtract 0 t97 fun t98 =>
  qExtract 1 t97 fun t99 =>
  C fn_store_Store_Now [s5] h19 fun t103 h20 =>
  C fn_store_Store_Read [s5, (S ⟨#[100]⟩), t103] h20 fun t104 h21 =>
  qExtract 0 t104 fun t105 =>
  qExtract 1 t104 fun t106 =>
  qBin .neq nn (I 2) fun t108 =>
  ifB t108 (Q (B false) h21) (
  qIndexAddrA 2 6 s9 (I 0) fun t110 =>
  qFieldAddr 0 t110 fun t111 =>
  qFieldAddr 0 t111 fun t112 =>
  qLoad1 t112 h21 fun t113 =>
  qBin .neq t113 (I 0) fun t114 =>
  ifB t114 (Q (B false) h21) (
  C fn_txn_Parts [t105] h21 fun t119 h22 =>
  law10_TxnGone_c1 t119 t99 Q h22 s9 s1 t98))
theorem gone_fin (hI : IndexOk) {pb p0 p1 pa : Nat} {g : G2} {app : Bool} (ok : endG app g = true) (s : GS h0 h i pb p0 p1 pa g R) (k : ∀ h', Q (B true) h') : goneFin (.ptr pa 0) (.ptr i 0) (B app) (I (g.n : Nat)) Q h := by
  obtain ⟨E0, E1, o0, o1, s⟩ := s
  unfold endG at ok
  simp only [Bool.and_eq_true, decide_eq_true_eq] at ok
  obtain ⟨k1, k2, k3, k4, k5, k6, k7⟩ := ok
  unfold goneFin
  refine stoNow_sp s ?_
  refine stoRead_sp (k := fmS) k1 s ?_
  refine st_ext rfl (st_ext rfl ?_)
  refine stoNow_sp s ?_
  refine stoRead_sp (k := [100]) k2 s ?_
  refine st_ext rfl (st_ext rfl ?_)
  rw [k4]
  (repeat refine st_neq ?_)
  refine st_ixA (j := 0) (by decide) ?_
  refine st_fa (st_fa (so_load1 s (.head _) rfl ?_))
  refine st_neq ?_
  rw [decide_eq_false (by rw [k5]; simp)]
  refine st_if (fun h => by cases h) (fun _ => ?_)
  refine wparts_sp hI k3 fun h2 f2 => ?_
  have s := s.after f2
  unfold law10_TxnGone_c1
  refine (Row.snap (h := h2) (enc := nmE) (sz := 1) (fun _ => rfl) _).len ?_
  generalize readM g.m fmS g.m.now = v at *
  generalize partsM ((readM g.m [100] g.m.now).getD []) = l at *
  refine st_eql ?_
  have e1 : decide ((l.length : Int) = 1) = v.isSome := by
    rw [k6, Bool.eq_iff_iff]; simp; omega
  rw [e1]
  refine st_bne ?_
  rw [bne_self_eq_false]
  refine st_if (fun h => by cases h) (fun _ => ?_)
  refine st_ixA (j := 1) (by decide) ?_
  refine st_fa (st_fa (so_load1 s (.head _) rfl ?_))
  refine st_eql ?_
  refine st_if (fun c1 => ?_) (fun c1 => ?_)
  · rw [if_pos (of_decide_eq_true c1)] at k7
    simp only [Bool.and_eq_true] at k7
    rw [k7.1]
    refine st_if (fun _ => ?_) (fun h => by cases h)
    refine st_not ?_
    rw [k7.2]; exact k _
  · rw [if_neg (of_decide_eq_false c1)] at k7
    simp only [Bool.and_eq_true, decide_eq_true_eq] at k7
    obtain ⟨k7, k8⟩ := k7
    refine st_ixA (j := 1) (by decide) ?_
    refine st_fa (st_fa (so_load1 s (.head _) rfl ?_))
    refine st_neq ?_
    rw [decide_eq_false (by rw [k7]; simp)]
    refine st_if (fun h => by cases h) (fun _ => ?_)
    refine st_ixA (j := 1) (by decide) ?_
    refine st_fa (so_load1 s (.head _) rfl ?_)
    refine st_ixA (j := 0) (by decide) ?_
    refine st_fa (so_load1 s (.head _) rfl ?_)
    refine st_gtr ?_
    refine st_if (fun c2 => ?_) (fun c2 => ?_)
    · rw [if_pos (of_decide_eq_true c2)] at k8
      simp only [Bool.and_eq_true, decide_eq_true_eq] at k8
      obtain ⟨k8, k9, k10⟩ := k8
      refine st_not ?_
      rw [k8]
      refine st_if (fun _ => ?_) (fun h => by cases h)
      rw [k9]
      refine st_if (fun _ => ?_) (fun h => by cases h)
      rw [k10]
      (repeat refine st_seq ?_)
      exact k _
    · rw [if_neg (of_decide_eq_false c2)] at k8
      refine st_not ?_
      rw [k8]; exact k _
theorem gone_loop (hI : IndexOk) (hS : SortOk) (hks : KVOk) {pb p0 p1 pa : Nat} {g : G2} {app : Bool} {ns : List Int} (hi : ∀ x ∈ ns, -9223372036854775808 ≤ x ∧ x ≤ 9223372036854775807) (hg : g.n = 0) (hb : ∃ e ∈ R, e.1 = pb) (ok : explB app 40 0 g = true) (s : GS h0 h i pb p0 p1 pa g R) (k : ∀ h', Q (B true) h') :
    Loop [(I 0), (I 0)] h fun vs11 h next11 => law10_TxnGone_l28 (.ptr pa 0) (.full 2 [.ptr p0 0, .ptr p1 0]) (.ptr i 0) (.snap ns.length (ns.flatMap intE)) (B app) Q vs11 h next11 := by
  refine st_loop (fun n vs h => ∃ (g : G2) (j : Nat), vs = [I (g.n : Nat), I (j : Nat)] ∧ n + j = 40 ∧ explB app n j g = true ∧ GS h0 h i pb p0 p1 pa g R) 40 ⟨g, 0, by rw [hg]; rfl, rfl, ok, s⟩ ?_
  rintro n vs h ⟨g, j, rfl, hn, ok, s⟩
  unfold law10_TxnGone_l28
  (repeat refine st_lss ?_)
  refine st_if (fun b1 => ?_) (fun b1 => ?_) <;> simp only [za, zb, zc, zd, ze, zf, zg, zh, zi, u8i, zj, zk, zl] at b1
  · obtain ⟨n, rfl⟩ : ∃ n', n = n' + 1 := ⟨n - 1, by omega⟩
    unfold explB at ok
    (repeat refine st_lss ?_)
    refine st_if (fun b2 => ?_) (fun b2 => ?_) <;> simp only [za, zb, zc, zd, ze, zf, zg, zh, zi, u8i, zj, zk, zl] at b2
    · rw [if_neg (by omega)] at ok
      have go : ∀ kk : Nat, kk < 2 → okG g kk = true ∧ explB app n (j + 1) (stepG g kk) = true → law10_TxnGone_j17 (I (kk : Nat)) (I (g.n : Nat)) (I (j : Nat)) (.ptr pa 0) (.full 2 [.ptr p0 0, .ptr p1 0]) h (fun vs' h' => ∃ m', m' < n + 1 ∧ ∃ (g : G2) (j : Nat), vs' = [I (g.n : Nat), I (j : Nat)] ∧ m' + j = 40 ∧ explB app m' j g = true ∧ GS h0 h' i pb p0 p1 pa g R) := fun kk hk o =>
        gone_j17 hI hS hks hk rfl (by omega) (by omega) hb o.1 s fun h' s' => ⟨n, by omega, stepG g kk, j + 1, rfl, by omega, o.2, s'⟩
      have any : j < 10 → ∀ kk : Nat, kk < 2 → okG g kk = true ∧ explB app n (j + 1) (stepG g kk) = true := fun hj kk hk => by
        rw [if_pos hj] at ok
        simp only [Bool.and_eq_true] at ok
        rcases (show kk = 0 ∨ kk = 1 by omega) with rfl | rfl
        · exact ok.1
        · exact ok.2
      have alt : okG g (j % 2) = true ∧ explB app n (j + 1) (stepG g (j % 2)) = true := by
        by_cases hj : j < 10
        · exact any hj _ (Nat.mod_lt _ (by decide))
        · rw [if_neg hj] at ok
          simpa using ok
      have hm : ((j : Int).tmod 2) = ((j % 2 : Nat) : Int) := by
        rw [Int.tmod_eq_emod_of_nonneg (by omega)]; omega
      refine st_rem (by decide) ?_
      rw [hm]
      (repeat (first | refine st_lenL1 ?_ | refine st_lss ?_))
      refine st_if (fun b3 => ?_) (fun b3 => ?_) <;> simp only [za, zb, zc, zd, ze, zf, zg, zh, zi, u8i, zj, zk, zl] at b3
      · (repeat refine st_lss ?_)
        refine st_if (fun b4 => ?_) (fun b4 => ?_) <;> simp only [za, zb, zc, zd, ze, zf, zg, zh, zi, u8i, zj, zk, zl] at b4
        · have hp : j < ns.length := by omega
          refine (Row.snap (h := h) (enc := intE) (sz := 1) (fun _ => rfl) ns).idx (fun _ => rfl) hp fun pp t => ?_
          refine st_pload1 t ?_
          refine law10_within_sp (by decide) (by decide) (hi _ (List.getElem_mem hp)) ?_
          obtain ⟨kk, hkk, hk2⟩ : ∃ kk : Nat, ns[j] % 2 = (kk : Int) ∧ kk < 2 := ⟨(ns[j] % 2).toNat, by omega, by omega⟩
          rw [hkk]
          exact go kk hk2 (any (by omega) kk hk2)
        · exact go _ (Nat.mod_lt _ (by decide)) alt
      · exact go _ (Nat.mod_lt _ (by decide)) alt
    · rw [if_pos (by omega)] at ok
      exact gone_fin hI ok s k
  · obtain rfl : n = 0 := by omega
    exact gone_fin hI ok s k
end
end
end Go.Proofs.YtamfimhaimaeiaaGreatDoor.AL
set_option maxHeartbeats 0
namespace Go.Proofs.YtamfimhaimaeiaaGreatDoor.AL
noncomputable section
def reqO : Rq := ⟨1, [109], [111, 108, 100], 0⟩
def m1000 : StM := ⟨[], 1000, 0, []⟩
def txO (r : Rq) : TxM := ⟨r, 0, false, false, 0, [], []⟩
def mOld : StM := (finishT 59 (txO reqO) m1000).2
def g0 (app : Bool) : G2 := ⟨mOld, txO ⟨2, [109], [], 0⟩, txO ⟨if app then 3 else 1, [109], newS, 0⟩, ⟨0, [], 0, false⟩, ⟨0, [], 0, false⟩, 0⟩
theorem fin_old : finishB 59 (txO reqO) m1000 = true := by kernel_rfl
end
end Go.Proofs.YtamfimhaimaeiaaGreatDoor.AL
set_option maxHeartbeats 0
namespace Go.Proofs.YtamfimhaimaeiaaGreatDoor.AL
noncomputable section
theorem exp_t : explB true 40 0 (g0 true) = true := by kernel_rfl
theorem exp_f : explB false 40 0 (g0 false) = true := by kernel_rfl
section
variable [Tabs]
variable {h0 h : AHeap} {M : List Nat} {L R R' : Own} {K : AV → Prop} {KH : QT} {KS' : AHeap → Prop} {Q : QT} {i : Nat} {m : StM}
theorem gone_law (hk : Known10) (hI : IndexOk) (hS : SortOk) (hks : KVOk) {app : Bool} {ns : List Int} (hi : ∀ x ∈ ns, -9223372036854775808 ≤ x ∧ x ≤ 9223372036854775807) (k : ∀ h', Q (B true) h') :
    C fn_law10_TxnGone [.snap ns.length (ns.flatMap intE), B app] h Q := by
  refine law10_TxnGone_ok _ _ _ _ ?_
  unfold law10_TxnGone
  refine hk _ _ ?_
  (repeat refine st_not ?_)
  refine stoNew_sp (St.start h) fun i h s => ?_
  refine incrNew_sp s fun j pb h s => ?_
  refine st_ptrNo (st_if (fun h => by cases h) (fun _ => ?_))
  refine st_ptrNo (st_if (fun h => by cases h) (fun _ => ?_))
  refine st_build rfl ?_
  refine soBegin (r := reqO) s fun p E h o s => ?_
  refine finish_sp hI hS hks ⟨_, .head _, rfl⟩ fin_old o s fun _ E h o s => ?_
  have s : StoS _ _ h i mOld _ := s
  refine st_build rfl ?_
  refine so_new s fun p7 h s => ?_
  refine so_store s .head rfl rfl rfl (nle rfl) fun h s => ?_
  have fin : ∀ (r1 : Rq) (hh h : AHeap), explB app 40 0 ⟨mOld, txO ⟨2, [109], [], 0⟩, txO r1, ⟨0, [], 0, false⟩, ⟨0, [], 0, false⟩, 0⟩ = true → StoS hh [] h i mOld ((p7, true, .cells (rqL r1)) :: (E ++ ((pb, true, .cells [.map j, .full 0 [], I 0]) :: (j, true, .amap [] 0) :: []))) → law10_TxnGone_j29 (.ptr p7 0) (.ptr pb 0) (.ptr i 0) (.snap ns.length (ns.flatMap intE)) (B app) h Q := fun r1 hh h ok s => by
    unfold law10_TxnGone_j29
    refine st_build rfl ?_
    refine so_loadA s (.head _) (nle rfl) ?_
    refine soBegin (r := ⟨2, [109], [], 0⟩) s fun p0 E0 h o0 s => ?_
    refine ⟨?_, ?_⟩
    · refine so_loadA (cs := rqL r1) (b := true) s (List.mem_append_right _ (.head _)) (nle rfl) ?_
      rfl
    refine soBegin (r := r1) s fun p1 E1 h o1 s => ?_
    refine st_buildS rfl rfl ?_
    refine st_ixF2 (j := 0) (by decide) (st_cload ?_)
    refine st_ptrNo (st_if (fun h => by cases h) (fun _ => ?_))
    refine st_ixF2 (j := 1) (by decide) (st_cload ?_)
    refine st_ptrNo (st_if (fun h => by cases h) (fun _ => ?_))
    refine so_new s fun p9 h s => ?_
    exact gone_loop (R := (p7, true, .cells (rqL r1)) :: (E ++ ((pb, true, .cells [.map j, .full 0 [], I 0]) :: (j, true, .amap [] 0) :: []))) hI hS hks hi rfl ⟨_, .tail _ (List.mem_append_right _ (.head _)), rfl⟩ ok ⟨E0, E1, o0, o1, s.perm (.cons _ (List.perm_append_comm_assoc _ _ _))⟩ k
  cases app with
  | true =>
    refine st_if (fun _ => ?_) (fun h => by cases h)
    refine st_build rfl ?_
    refine so_store s .head rfl rfl rfl (nle rfl) fun h s => ?_
    exact fin ⟨3, [109], newS, 0⟩ _ h exp_t s
  | false =>
    refine st_if (fun h => by cases h) (fun _ => ?_)
    exact fin ⟨1, [109], newS, 0⟩ _ _ exp_f s
end
end
end Go.Proofs.YtamfimhaimaeiaaGreatDoor.AL
namespace Go.Proofs.YtamfimhaimaeiaaGreatDoor.AL
noncomputable section
variable [Tabs5]
theorem gone_card_law (app : Bool) {ns : List Int} (z : ns.length ≤ maxLen) (w : ∀ x ∈ ns, (Lit.int .i64 x).wf = true) {h : AHeap} {Q : QT} (k : ∀ h', Q (B true) h') : C fn_law10_TxnGone [.snap ns.length (ns.map fun n => .lit (.int .i64 n)), B app] h Q := by
  have e : ∀ ns : List Int, (ns.map fun n => AV.lit (.int .i64 n)) = ns.flatMap intE := fun ns => by
    induction ns with
    | nil => rfl
    | cons a l ih => simp [intE, ih]
  rw [e]
  exact gone_law known10 indexOk sortOk kvOk (fun x hx => by have := w x hx; simp only [Lit.wf, Bool.and_eq_true, decide_eq_true_eq] at this; exact this) k
end
end Go.Proofs.YtamfimhaimaeiaaGreatDoor.AL
