import Derived.Test.YtamfimhaimaeiaaGreatDoorT8toTL2
import Derived.KernelRfl
import Derived.Test.YtamfimhaimaeiaaGreatDoorAI4toSI
import Derived.Test.YtamfimhaimaeiaaGreatDoorAL32toAL34
set_option linter.all false
set_option autoImplicit true
set_option relaxedAutoImplicit true
set_option maxRecDepth 100000
namespace Go.Proofs.YtamfimhaimaeiaaGreatDoor.AL
noncomputable section
section
variable [Tabs]
variable {h0 h : AHeap} {M : List Nat} {L R R' : Own} {K : AV → Prop} {KH : QT} {KS' : AHeap → Prop} {Q : QT} {i : Nat} {m : StM}
def BS (h0 : AHeap) (h : AHeap) (i pb p0 p1 pa : Nat) (g : G2) (R : Own) : Prop := ∃ E0 E1, TxO i pb p0 g.t0 E0 ∧ TxO i pb p1 g.t1 E1 ∧ StoS h0 [] h i g.m ((pa, true, .cells [.ptr p0 0, .ptr p1 0]) :: (E0 ++ (E1 ++ R)))
theorem blind_told {p pb p16 pa k : Nat} {t : TxM} {d : DoneM} {E : Own} {x : AV} {cs : List AV} {dn j : Nat} {s6 : AV} (hk : k < 2) (hp : cs[k]? = some (.ptr p 0)) (he : d.e = 0) (hw : d.wrote = true) (ht : t.tries = 1) (hd : dn < 2) (hj : j < 20)
    (o : TxO i pb p t E) (s : StoS h0 M h i m ((p16, true, .cells (doneL d)) :: (E ++ ((pa, true, .cells cs) :: R)))) {nx : NT} (q : nx [s6, I (k : Nat), I ((dn + 1 : Nat) : Int), I ((j + 1 : Nat) : Int)] h) :
    qBin .add (I (dn : Nat)) (I 1) fun t96 => qFieldAddr 0 (.ptr p16 0) fun t98 => qFieldAddr 0 t98 fun t99 => qLoad1 t99 h fun t100 => qBin .neq t100 (I 0) fun t101 => ifB t101 (Q (B false) h) (
      qFieldAddr 5 (.ptr p16 0) fun t103 => qLoad1 t103 h fun t104 => qUn .not t104 fun t105 => ifB t105 (Q (B false) h) (
      qIndexAddrA 2 1 (.ptr pa 0) (I (k : Nat)) fun t109 => qLoad1 t109 h fun t110 => C fn_txn_Txn_Tries [t110] h fun t111 h14 => qBin .neq t111 (I 1) fun t112 => ifB t112 (Q (B false) h14) (
      qBin .add (I (j : Nat)) (I 1) fun t71 => nx [s6, I (k : Nat), t96, t71] h14))) := by
  refine st_add (by omega) ?_
  refine st_fa (st_fa (so_load1 s (.head _) rfl ?_))
  refine st_neq ?_
  rw [decide_eq_false (by rw [he]; simp)]
  refine st_if (fun h => by cases h) (fun _ => ?_)
  refine st_fa (so_load1 s (.head _) rfl (st_not ?_))
  rw [hw]
  refine st_if (fun h => by cases h) (fun _ => ?_)
  refine st_ixA hk ?_
  refine so_load1 (cs := cs) (b := true) s (by simp) (by simpa using hp) ?_
  refine soTries o (s.sub ((List.Sublist.refl _).cons _)) ?_
  rw [ht]
  refine st_neq ?_
  refine st_if (fun h => by simp at h) (fun _ => ?_)
  refine st_add (by omega) ?_
  exact q
theorem putR {a : Str} (ha : a.length ≤ 300) : rightM ⟨1, [109], a, 0⟩ = true := by
  unfold rightM
  rw [if_neg (by simp), if_neg (by simp)]
  have : isWord [109] = true := by decide
  simp [this, writesM]; omega
theorem SW_r0 (a b : Str) : ∀ j, j < 14 → (SW a b j).t0.r = ⟨1, [109], a, 0⟩ ∧ (SW a b j).t1.r = ⟨1, [109], b, 0⟩ ∧ some (SW a b j).n = doneW[j]? := fun j hj => by
  rcases (show j = 0 ∨ j = 1 ∨ j = 2 ∨ j = 3 ∨ j = 4 ∨ j = 5 ∨ j = 6 ∨ j = 7 ∨ j = 8 ∨ j = 9 ∨ j = 10 ∨ j = 11 ∨ j = 12 ∨ j = 13 by omega) with h | h | h | h | h | h | h | h | h | h | h | h | h | h <;> subst h <;> exact ⟨by kernel_rfl, by kernel_rfl, by kernel_rfl⟩
end
end
end Go.Proofs.YtamfimhaimaeiaaGreatDoor.AL
set_option maxHeartbeats 1000000
namespace Go.Proofs.YtamfimhaimaeiaaGreatDoor.AL
noncomputable section
theorem last_keep : ∀ j, j < 10 → (doneW[nxW j 0]? = doneW[j]? → lastW[nxW j 0]? = lastW[j]?) ∧ (doneW[nxW j 1]? = doneW[j]? → lastW[nxW j 1]? = lastW[j]?) := by decide
theorem nx_lt : ∀ j, j < 10 → nxW j 0 < 14 ∧ nxW j 1 < 14 := by decide
theorem done_two : ∀ j, j < 14 → 10 ≤ j → doneW[j]? = some 2 := by decide
theorem done_lt : ∀ j, j < 10 → doneW[j]? = some 0 ∨ doneW[j]? = some 1 := by decide
theorem last_lt : ∀ j, j < 14 → lastW[j]? = some 0 ∨ lastW[j]? = some 1 := by decide
theorem row_SW (a b : Str) : ∀ j, 10 ≤ j → j < 14 → decide ((rowK (SW a b j).m fmS).length < 1000000) = true
  | 10, _, _ => by kernel_rfl
  | 11, _, _ => by kernel_rfl
  | 12, _, _ => by kernel_rfl
  | 13, _, _ => by kernel_rfl
  | n + 14, _, h => absurd h (by omega)
section
variable [Tabs]
variable {h0 h : AHeap} {M : List Nat} {L R R' : Own} {K : AV → Prop} {KH : QT} {KS' : AHeap → Prop} {Q : QT} {i : Nat} {m : StM}
theorem blind_j15 (hI : IndexOk) (hS : SortOk) (hks : KVOk) {pb p0 p1 pa jj k j dn la : Nat} {a b : Str} {s6 : AV} (hk : k < 2) (hjj : jj < 10) (hj : j < 20) (hdn : doneW[jj]? = some dn) (hla : lastW[jj]? = some la) (hdn2 : dn < 2) (hb : ∃ e ∈ R, e.1 = pb)
    (ha : a.length ≤ 300) (hb' : b.length ≤ 300) (s : BS h0 h i pb p0 p1 pa (SW a b jj) R) {nx : NT}
    (q : ∀ h' la' dn', lastW[nxW jj k]? = some la' → doneW[nxW jj k]? = some dn' → BS h0 h' i pb p0 p1 pa (SW a b (nxW jj k)) R → nx [s6, I (la' : Nat), I (dn' : Nat), I ((j + 1 : Nat) : Int)] h') :
    law10_TxnBlind_j15 (I (k : Nat)) s6 (I (la : Nat)) (I (dn : Nat)) (I (j : Nat)) (.ptr pa 0) h nx Q := by
  obtain ⟨E0, E1, o0, o1, s⟩ := s
  obtain ⟨e, he, hpb⟩ := hb
  obtain ⟨r0, r1, -⟩ := SW_r0 a b jj (by omega)
  have st := step_SW a b jj hjj
  have rs := res_SW a b jj hjj
  have lk := last_keep jj hjj
  unfold law10_TxnBlind_j15
  refine st_ixA hk ?_
  rcases (show k = 0 ∨ k = 1 by omega) with rfl | rfl
  · refine so_load1 (cs := [.ptr p0 0, .ptr p1 0]) (b := true) s (by simp) rfl ?_
    have st := st.1
    have rs := rs.1
    have lk := lk.1
    have s := s.perm (R' := E0 ++ ((pa, true, .cells [.ptr p0 0, .ptr p1 0]) :: (E1 ++ R))) List.perm_middle.symm
    unfold resW at rs
    rw [Bool.and_eq_true] at rs
    obtain ⟨ok, rs⟩ := rs
    have rt : rightM (SW a b jj).t0.r = true := by rw [r0]; exact putR ha
    refine step_sp hI hS hks ⟨e, by simp [he], hpb⟩ (stepX_ok (by rw [r0]; show a.length < 90000; omega) ok) o0 s fun E h o s => ?_
    refine st_ext rfl (st_ext rfl ?_)
    refine so_new s fun p16 h s => ?_
    refine so_store s .head rfl rfl rfl (nle rfl) fun h s => ?_
    rw [stepT_U rt] at o s ⊢
    unfold stepW at st
    rw [if_pos rfl] at st
    generalize hz : stepU (SW a b jj).t0 (SW a b jj).m = z at st rs o s ⊢
    obtain ⟨d, t2, m2⟩ := z
    cases d with
    | none =>
      refine st_if (fun h => by cases h) (fun _ => ?_)
      refine st_add (by omega) ?_
      simp only [Bool.and_eq_true, decide_eq_true_eq] at rs
      refine q h la dn (by rw [lk rs.1]; exact hla) (by rw [rs.1]; exact hdn) ?_
      rw [← st]
      exact ⟨E, E1, o, o1, (s.sub ((List.Sublist.refl _).cons _)).perm List.perm_middle⟩
    | some d =>
      simp only [Bool.and_eq_true, decide_eq_true_eq] at rs
      obtain ⟨e1, e2, e3, e4, e5⟩ := rs
      refine st_if (fun _ => ?_) (fun h => by cases h)
      refine blind_told (x := I 0) (cs := [.ptr p0 0, .ptr p1 0]) (R := E1 ++ R) (t := t2) (p := p0) (by decide) rfl e1 e2 e3 hdn2 hj o s ?_
      refine q h 0 (dn + 1) e5 (by rw [e4, hdn]; rfl) ?_
      rw [← st]
      exact ⟨E, E1, o, o1, (s.sub ((List.Sublist.refl _).cons _)).perm List.perm_middle⟩
  · refine so_load1 (cs := [.ptr p0 0, .ptr p1 0]) (b := true) s (by simp) rfl ?_
    have st := st.2
    have rs := rs.2
    have lk := lk.2
    have s := s.perm (R' := E1 ++ ((pa, true, .cells [.ptr p0 0, .ptr p1 0]) :: (E0 ++ R))) (by
      refine List.Perm.trans ?_ List.perm_middle.symm
      exact .cons _ (List.perm_append_comm_assoc _ _ _))
    unfold resW at rs
    rw [Bool.and_eq_true] at rs
    obtain ⟨ok, rs⟩ := rs
    have rt : rightM (SW a b jj).t1.r = true := by rw [r1]; exact putR hb'
    refine step_sp hI hS hks ⟨e, by simp [he], hpb⟩ (stepX_ok (by rw [r1]; show b.length < 90000; omega) ok) o1 s fun E h o s => ?_
    refine st_ext rfl (st_ext rfl ?_)
    refine so_new s fun p16 h s => ?_
    refine so_store s .head rfl rfl rfl (nle rfl) fun h s => ?_
    rw [stepT_U rt] at o s ⊢
    unfold stepW at st
    rw [if_neg (by decide)] at st
    have pp : (E ++ ((pa, true, AObj.cells [.ptr p0 0, .ptr p1 0]) :: (E0 ++ R))).Perm ((pa, true, .cells [.ptr p0 0, .ptr p1 0]) :: (E0 ++ (E ++ R))) := by
      refine List.perm_middle.trans ?_
      exact .cons _ (List.perm_append_comm_assoc _ _ _)
    generalize hz : stepU (SW a b jj).t1 (SW a b jj).m = z at st rs o s ⊢
    obtain ⟨d, t2, m2⟩ := z
    cases d with
    | none =>
      refine st_if (fun h => by cases h) (fun _ => ?_)
      refine st_add (by omega) ?_
      simp only [Bool.and_eq_true, decide_eq_true_eq] at rs
      refine q h la dn (by rw [lk rs.1]; exact hla) (by rw [rs.1]; exact hdn) ?_
      rw [← st]
      exact ⟨E0, E, o0, o, (s.sub ((List.Sublist.refl _).cons _)).perm pp⟩
    | some d =>
      simp only [Bool.and_eq_true, decide_eq_true_eq] at rs
      obtain ⟨e1, e2, e3, e4, e5⟩ := rs
      refine st_if (fun _ => ?_) (fun h => by cases h)
      refine blind_told (x := I 0) (cs := [.ptr p0 0, .ptr p1 0]) (R := E0 ++ R) (t := t2) (p := p1) (by decide) rfl e1 e2 e3 hdn2 hj o s ?_
      refine q h 1 (dn + 1) e5 (by rw [e4, hdn]; rfl) ?_
      rw [← st]
      exact ⟨E0, E, o0, o, (s.sub ((List.Sublist.refl _).cons _)).perm pp⟩
def blindFin (s9 s7 : AV) (vs9 : List AV) (Q : QT) (h : AHeap) : Prop :=
  C fn_store_Store_Now [s7] h fun t117 h16 =>
  C fn_store_Store_Read [s7, (S ⟨#[102, 109]⟩), t117] h16 fun t118 h17 =>
  law10_TxnBlind_c1 t118 vs9 s9 h17 Q
theorem blind_fin {pb p0 p1 pa jj la : Nat} {a b : Str} {s6 : AV} {vs : List AV} {j : Nat} (hv : vs = [s6, I (la : Nat), I (2 : Nat), I (j : Nat)]) (h1 : 10 ≤ jj) (h2 : jj < 14) (hla : lastW[jj]? = some la) (s : BS h0 h i pb p0 p1 pa (SW a b jj) R) (k : ∀ h', Q (B true) h') :
    blindFin (.full 2 [T a, T b]) (.ptr i 0) vs Q h := by
  subst hv
  obtain ⟨E0, E1, o0, o1, s⟩ := s
  have rw1 := of_decide_eq_true (row_SW a b jj h1 h2)
  have en := end_SW a b jj h1 h2
  unfold blindFin
  refine stoNow_sp s ?_
  refine stoRead_sp (k := fmS) rw1 s ?_
  unfold law10_TxnBlind_c1
  refine st_ext rfl (st_ext rfl ?_)
  rw [en]
  (repeat refine st_eql ?_)
  refine st_if (fun _ => ?_) (fun h => by cases h)
  have hl2 : la < 2 := by
    rcases last_lt jj h2 with h | h <;> rw [h] at hla <;> cases hla <;> decide
  refine st_ixF2 hl2 ?_
  rcases (show la = 0 ∨ la = 1 by omega) with rfl | rfl
  · refine st_cload ?_
    rw [if_pos hla]
    (repeat refine st_seq ?_)
    rw [show decide ((some a).getD [] = a) = true from decide_eq_true rfl]
    exact k _
  · refine st_cload ?_
    rw [if_neg (by rw [hla]; simp)]
    (repeat refine st_seq ?_)
    rw [show decide ((some b).getD [] = b) = true from decide_eq_true rfl]
    exact k _
theorem walk_step {f i j : Nat} (h : walkW f i j = true) (hj : j < 10) : ∃ f', f = f' + 1 ∧ (i < 8 → ∀ k, k < 2 → walkW f' (i + 1) (nxW j k) = true) ∧ walkW f' (i + 1) (nxW j (i % 2)) = true := by
  cases f with
  | zero => unfold walkW at h; simp at h; omega
  | succ f =>
    unfold walkW at h
    rw [if_neg (by omega)] at h
    refine ⟨f, rfl, fun hi k hk => ?_, ?_⟩
    · rw [if_pos hi, Bool.and_eq_true] at h
      rcases (show k = 0 ∨ k = 1 by omega) with rfl | rfl
      · exact h.1
      · exact h.2
    · by_cases hi : i < 8
      · rw [if_pos hi, Bool.and_eq_true] at h
        rcases (show i % 2 = 0 ∨ i % 2 = 1 by omega) with e | e <;> rw [e]
        · exact h.1
        · exact h.2
      · rw [if_neg hi] at h; exact h
theorem blind_loop (hI : IndexOk) (hS : SortOk) (hks : KVOk) {pb p0 p1 pa : Nat} {a b : Str} {ns : List Int} {s6 : AV} (hi : ∀ x ∈ ns, -9223372036854775808 ≤ x ∧ x ≤ 9223372036854775807) (ha : a.length ≤ 300) (hb' : b.length ≤ 300) (hb : ∃ e ∈ R, e.1 = pb) (s : BS h0 h i pb p0 p1 pa (startW a b) R) (k : ∀ h', Q (B true) h') :
    Loop [s6, (I 0), (I 0), (I 0)] h fun vs9 h next9 => law10_TxnBlind_l20 (.ptr pa 0) (.full 2 [T a, T b]) (.ptr i 0) (.snap ns.length (ns.flatMap intE)) Q vs9 h next9 := by
  refine st_loop (fun n vs h => ∃ jj la dn j : Nat, vs = [s6, I (la : Nat), I (dn : Nat), I (j : Nat)] ∧ n + j = 20 ∧ jj < 14 ∧ lastW[jj]? = some la ∧ doneW[jj]? = some dn ∧ walkW n j jj = true ∧ BS h0 h i pb p0 p1 pa (SW a b jj) R) 20 ⟨0, 0, 0, 0, rfl, rfl, by decide, rfl, rfl, walk_all, s⟩ ?_
  rintro n vs h ⟨jj, la, dn, j, rfl, hn, h14, hla, hdn, hw, s⟩
  have fin : 10 ≤ jj → blindFin (.full 2 [T a, T b]) (.ptr i 0) [s6, I (la : Nat), I (dn : Nat), I (j : Nat)] Q h := fun h10 => by
    have := done_two jj h14 h10
    rw [this] at hdn
    cases hdn
    exact blind_fin rfl h10 h14 hla s k
  unfold law10_TxnBlind_l20
  (repeat refine st_lss ?_)
  refine st_if (fun b1 => ?_) (fun b1 => ?_) <;> simp only [za, zb, zc, zd, ze, zf, zg, zh, zi, u8i, zj, zk, zl] at b1
  · (repeat refine st_lss ?_)
    refine st_if (fun b2 => ?_) (fun b2 => ?_) <;> simp only [za, zb, zc, zd, ze, zf, zg, zh, zi, u8i, zj, zk, zl] at b2
    · have hj10 : jj < 10 := by
        apply Nat.lt_of_not_le
        intro h10
        have := done_two jj h14 h10
        rw [this] at hdn
        cases hdn
        omega
      obtain ⟨n, rfl, w1, w2⟩ := walk_step hw hj10
      have go : ∀ kk : Nat, kk < 2 → walkW n (j + 1) (nxW jj kk) = true → law10_TxnBlind_j15 (I (kk : Nat)) s6 (I (la : Nat)) (I (dn : Nat)) (I (j : Nat)) (.ptr pa 0) h (fun vs' h' => ∃ m', m' < n + 1 ∧ ∃ jj la dn j : Nat, vs' = [s6, I (la : Nat), I (dn : Nat), I (j : Nat)] ∧ m' + j = 20 ∧ jj < 14 ∧ lastW[jj]? = some la ∧ doneW[jj]? = some dn ∧ walkW m' j jj = true ∧ BS h0 h' i pb p0 p1 pa (SW a b jj) R) Q := fun kk hk o => by
        refine blind_j15 hI hS hks hk hj10 (by omega) hdn hla (by omega) hb ha hb' s fun h' la' dn' e1 e2 s' => ⟨n, by omega, nxW jj kk, la', dn', j + 1, rfl, by omega, ?_, e1, e2, o, s'⟩
        have := nx_lt jj hj10
        rcases (show kk = 0 ∨ kk = 1 by omega) with rfl | rfl
        · exact this.1
        · exact this.2
      have hm : ((j : Int).tmod 2) = ((j % 2 : Nat) : Int) := by
        rw [Int.tmod_eq_emod_of_nonneg (by omega)]; omega
      refine st_rem (by decide) ?_
      rw [hm]
      (repeat (first | refine st_lenL1 ?_ | refine st_lss ?_))
      refine st_if (fun b3 => ?_) (fun b3 => ?_) <;> simp only [za, zb, zc, zd, ze, zf, zg, zh, zi, u8i, zj, zk, zl] at b3
      · (repeat refine st_lss ?_)
        refine st_if (fun b4 => ?_) (fun b4 => ?_) <;> simp only [za, zb, zc, zd, ze, zf, zg, zh, zi, u8i, zj, zk, zl] at b4
        · have hp : j < ns.length := by omega
          refine (Row.snap (h := h) (enc := intE) (sz := 1) (fun _ => rfl) ns).idx (fun _ => rfl) hp fun pp t => ?_
          refine st_pload1 t ?_
          refine law10_within_sp (by decide) (by decide) (hi _ (List.getElem_mem hp)) ?_
          obtain ⟨kk, hkk, hk2⟩ : ∃ kk : Nat, ns[j] % 2 = (kk : Int) ∧ kk < 2 := ⟨(ns[j] % 2).toNat, by omega, by omega⟩
          rw [hkk]
          exact go kk hk2 (w1 (by omega) kk hk2)
        · exact go _ (Nat.mod_lt _ (by decide)) w2
      · exact go _ (Nat.mod_lt _ (by decide)) w2
    · refine fin ?_
      apply Nat.le_of_not_lt
      intro h10
      rcases done_lt jj h10 with e | e <;> rw [e] at hdn <;> cases hdn <;> omega
  · refine fin ?_
    obtain rfl : n = 0 := by omega
    unfold walkW at hw
    simpa using hw
end
end
end Go.Proofs.YtamfimhaimaeiaaGreatDoor.AL
set_option maxHeartbeats 0
namespace Go.Proofs.YtamfimhaimaeiaaGreatDoor.AL
noncomputable section
def reqO : Rq := ⟨1, [109], [111, 108, 100], 0⟩
def m1000 : StM := ⟨[], 1000, 0, []⟩
def txO (r : Rq) : TxM := ⟨r, 0, false, false, 0, [], []⟩
def mOld : StM := (finishT 59 (txO reqO) m1000).2
theorem fin_old : finishB 59 (txO reqO) m1000 = true := by kernel_rfl
end
end Go.Proofs.YtamfimhaimaeiaaGreatDoor.AL
set_option maxHeartbeats 0
namespace Go.Proofs.YtamfimhaimaeiaaGreatDoor.AL
noncomputable section
section
variable [Tabs]
variable {h0 h : AHeap} {M : List Nat} {L R R' : Own} {K : AV → Prop} {KH : QT} {KS' : AHeap → Prop} {Q : QT} {i : Nat} {m : StM}
end
end
end Go.Proofs.YtamfimhaimaeiaaGreatDoor.AL
set_option maxHeartbeats 1000000
namespace Go.Proofs.YtamfimhaimaeiaaGreatDoor.AL
noncomputable section
section
variable [Tabs]
variable {h0 h : AHeap} {M : List Nat} {L R R' : Own} {K : AV → Prop} {KH : QT} {KS' : AHeap → Prop} {Q : QT} {i : Nat} {m : StM}
theorem old_W : mOld = oldM := by kernel_rfl
theorem blind_law (hk : Known10) (hI : IndexOk) (hS : SortOk) (hks : KVOk) {a b : Str} {ns : List Int} (hi : ∀ x ∈ ns, -9223372036854775808 ≤ x ∧ x ≤ 9223372036854775807) (ha : a.length ≤ 140737488355328) (hb : b.length ≤ 140737488355328) (k : ∀ h', Q (B true) h') :
    C fn_law10_TxnBlind [.snap ns.length (ns.flatMap intE), T a, T b] h Q := by
  refine law10_TxnBlind_ok _ _ _ _ _ ?_
  unfold law10_TxnBlind
  refine hk _ _ ?_
  (repeat (first | refine st_lenS ?_ | refine st_not ?_ | refine st_gtr ?_))
  refine st_if (fun b1 => ?_) (fun b1 => ?_) <;> simp only [za, zb, zc, zd, ze, zf, zg, zh, zi, u8i, zj, zk, zl] at b1
  · exact k _
  (repeat (first | refine st_lenS ?_ | refine st_gtr ?_))
  refine st_if (fun b2 => ?_) (fun b2 => ?_) <;> simp only [za, zb, zc, zd, ze, zf, zg, zh, zi, u8i, zj, zk, zl] at b2
  · exact k _
  refine stoNew_sp (St.start h) fun i h s => ?_
  refine incrNew_sp s fun j pb h s => ?_
  refine st_ptrNo (st_if (fun h => by cases h) (fun _ => ?_))
  refine st_ptrNo (st_if (fun h => by cases h) (fun _ => ?_))
  refine st_build rfl ?_
  refine soBegin (r := reqO) s fun p E h o s => ?_
  refine finish_sp hI hS hks ⟨_, .head _, rfl⟩ fin_old o s fun _ E h o s => ?_
  have s : StoS _ _ h i mOld _ := s
  rw [old_W] at s
  refine st_buildS rfl rfl ?_
  refine so_new s fun pa h s => ?_
  have pb' : ∃ e ∈ (E ++ ((pb, true, AObj.cells [.map j, .full 0 [], I 0]) :: (j, true, AObj.amap [] 0) :: [])), e.1 = pb := ⟨_, List.mem_append_right _ (.head _), rfl⟩
  refine st_loopX 3 (lx_go ?_)
  unfold law10_TxnBlind_l21
  (repeat refine st_lss ?_)
  refine st_if (fun _ => ?_) (fun h => by cases h)
  refine st_ixF2 (j := 0) (by decide) (st_cload ?_)
  refine st_build rfl ?_
  refine soBegin (r := ⟨1, [109], a, 0⟩) s fun p0 E0 h o0 s => ?_
  refine st_ixA (j := 0) (by decide) ?_
  have s := s.perm (R' := (pa, true, .cells [.lit (.pointer none), .lit (.pointer none)]) :: (E0 ++ (E ++ ((pb, true, AObj.cells [.map j, .full 0 [], I 0]) :: (j, true, AObj.amap [] 0) :: [])))) List.perm_middle
  refine so_store s .head rfl rfl rfl (nle rfl) fun h s => ?_
  refine st_ixA (j := 0) (by decide) ?_
  refine so_load1 s (.head _) rfl ?_
  refine st_ptrNo (st_if (fun h => by cases h) (fun _ => ?_))
  (repeat refine st_add (by omega) ?_)
  refine lx_next (lx_go ?_)
  (repeat refine st_lss ?_)
  refine st_if (fun _ => ?_) (fun h => by cases h)
  refine st_ixF2 (j := 1) (by decide) (st_cload ?_)
  refine st_build rfl ?_
  refine soBegin (r := ⟨1, [109], b, 0⟩) s fun p1 E1 h o1 s => ?_
  refine st_ixA (j := 1) (by decide) ?_
  have s := s.perm (R' := (pa, true, .cells [.ptr p0 0, .lit (.pointer none)]) :: (E0 ++ (E1 ++ (E ++ ((pb, true, AObj.cells [.map j, .full 0 [], I 0]) :: (j, true, AObj.amap [] 0) :: []))))) (by
    refine List.perm_middle.trans ?_
    exact .cons _ (List.perm_append_comm_assoc _ _ _))
  refine so_store s .head rfl rfl rfl (nle rfl) fun h s => ?_
  refine st_ixA (j := 1) (by decide) ?_
  refine so_load1 s (.head _) rfl ?_
  refine st_ptrNo (st_if (fun h => by cases h) (fun _ => ?_))
  (repeat refine st_add (by omega) ?_)
  refine lx_next (lx_go ?_)
  (repeat refine st_lss ?_)
  refine st_if (fun h => by cases h) (fun _ => ?_)
  exact blind_loop hI hS hks hi (by omega) (by omega) pb' ⟨E0, E1, o0, o1, s⟩ k
end
end
end Go.Proofs.YtamfimhaimaeiaaGreatDoor.AL
namespace Go.Proofs.YtamfimhaimaeiaaGreatDoor.AL
noncomputable section
variable [Tabs5]
theorem blind_card_law {ns : List Int} (z : ns.length ≤ maxLen) (w : ∀ x ∈ ns, (Lit.int .i64 x).wf = true) {a b : Str} (ha : a.length ≤ 140737488355328) (hb : b.length ≤ 140737488355328) {h : AHeap} {Q : QT} (k : ∀ h', Q (B true) h') : C fn_law10_TxnBlind [.snap ns.length (ns.map fun n => .lit (.int .i64 n)), T a, T b] h Q := by
  have e : ∀ ns : List Int, (ns.map fun n => AV.lit (.int .i64 n)) = ns.flatMap intE := fun ns => by
    induction ns with
    | nil => rfl
    | cons a l ih => simp [intE, ih]
  rw [e]
  exact blind_law known10 indexOk sortOk kvOk (fun x hx => by have := w x hx; simp only [Lit.wf, Bool.and_eq_true, decide_eq_true_eq] at this; exact this) ha hb k
end
end Go.Proofs.YtamfimhaimaeiaaGreatDoor.AL
