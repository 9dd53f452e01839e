import Derived.Test.YtiddcelpooenfaaGreatDoorAA5toAA10
import Derived.Test.YtiddcelpooenfaaGreatDoorSBtoAI2
set_option linter.all false
set_option autoImplicit true
set_option relaxedAutoImplicit true
set_option maxRecDepth 100000
namespace Go.Proofs.YtiddcelpooenfaaGreatDoor.AL
section
noncomputable section
section
variable [Tabs]
def growB (f : Str → Option Int) (e : En) : Bool := decide (e.x.2.kind = 2) && (!e.grown && (decide ((evalF e.place f (lastE e)).2 = 0) && !(codeM (shortOp 0) [(evalF e.place f (lastE e)).1 - e.place]).isSome))
end
def enGr (e : En) : En := ⟨e.frag, e.x, e.place, true⟩
def gX (x : Nat × En) : Nat × En := (x.1, enGr x.2)
def grF (p : Nat × En → Bool) : Nat → List (Nat × En) → List (Nat × En)
  | 0, l => l
  | _ + 1, [] => []
  | t + 1, x :: l => if p x = true then gX x :: grF p t l else x :: grF p (t + 1) l
theorem grF_zero (p : Nat × En → Bool) (l : List (Nat × En)) : grF p 0 l = l := by cases l <;> simp [grF]
theorem grF_step (p : Nat × En → Bool) : ∀ (l : List (Nat × En)) (t : Nat) (ht : t < (l.filter p).length), ∃ q, ∃ hq : q < (grF p t l).length, (grF p t l)[q] = (l.filter p)[t] ∧ grF p (t + 1) l = (grF p t l).set q (gX (l.filter p)[t])
  | [], t, ht => by simp at ht
  | x :: l, t, ht => by
    by_cases hp : p x = true
    · cases t with
      | zero => exact ⟨0, by simp [grF], by simp [grF, hp], by simp [grF, hp]⟩
      | succ t =>
        have ht2 : t < (l.filter p).length := by simpa [List.filter_cons, hp] using ht
        obtain ⟨q, hq, h1, h2⟩ := grF_step p l t ht2
        refine ⟨q + 1, by simp [grF, hp]; exact hq, ?_, ?_⟩
        · simp [grF, hp, List.filter_cons, h1]
        · simp [grF, hp, List.filter_cons, h2]
    · have hf : (x :: l).filter p = l.filter p := by simp [List.filter_cons, hp]
      have ht2 : t < (l.filter p).length := by rw [hf] at ht; exact ht
      obtain ⟨q, hq, h1, h2⟩ := grF_step p l t ht2
      cases t with
      | zero => 
        refine ⟨q + 1, by simp [grF] at hq ⊢; exact hq, ?_, ?_⟩
        · simp [grF, hf]; simpa [grF] using h1
        · simp [grF, hp, hf]; simpa [grF] using h2
      | succ t =>
        refine ⟨q + 1, by simp [grF, hp]; exact hq, ?_, ?_⟩
        · simp [grF, hp, hf, h1]
        · simp [grF, hp, hf]; simpa [grF] using h2
theorem grF_all (p : Nat × En → Bool) : ∀ l : List (Nat × En), grF p (l.filter p).length l = l.map fun x => if p x = true then gX x else x
  | [] => by simp [grF]
  | x :: l => by
    by_cases hp : p x = true
    · simp [List.filter_cons, hp, grF, grF_all p l]
    · have hf : (x :: l).filter p = l.filter p := by simp [List.filter_cons, hp]
      rw [hf, List.map_cons, if_neg hp]
      cases hn : (l.filter p).length with
      | zero =>
        have := grF_all p l
        rw [hn] at this
        simp only [grF] at this ⊢
        rw [← this]
      | succ n =>
        have := grF_all p l
        rw [hn] at this
        rw [grF, if_neg hp, this]
section
variable [Tabs]
def growE (f : Str → Option Int) (e : En) : En := if growB f e = true then enGr e else e
variable {h0 h h' : AHeap} {M : List Nat} {Q : QT} {K : AV → Prop}
variable {i js : Nat} {l : List (Nat × En)} {ds : List Dg} {lv dv kn : AV} {sz : Int} {kvs : KV} {EL ED R : Own}
theorem SS.frontL {E : Own} (s' : St h0 M h' (E ++ (ED ++ ((i, true, srcC lv js kn dv sz) :: (js, true, mapO kvs) :: (EL ++ (entsO l ++ R)))))) (s : SS h0 M h i js l ds lv dv kn sz kvs EL ED R) : SS h0 M h' i js l ds lv dv kn sz kvs EL ED (E ++ R) := ⟨s.al, s.ad, s'.perm (by
  have hx : ∀ R : Own, (ED ++ ((i, true, srcC lv js kn dv sz) :: (js, true, mapO kvs) :: (EL ++ (entsO l ++ R)))) = (ED ++ ((i, true, srcC lv js kn dv sz) :: (js, true, mapO kvs) :: (EL ++ entsO l))) ++ R := fun R => by simp
  rw [hx R, hx (E ++ R), ← List.append_assoc, ← List.append_assoc _ E]
  exact List.Perm.append_right _ List.perm_append_comm)⟩
theorem SS.backL {E : Own} (s : SS h0 M h i js l ds lv dv kn sz kvs EL ED (E ++ R)) : St h0 M h (E ++ (ED ++ ((i, true, srcC lv js kn dv sz) :: (js, true, mapO kvs) :: (EL ++ (entsO l ++ R))))) := s.st.perm (by
  have hx : ∀ R : Own, (ED ++ ((i, true, srcC lv js kn dv sz) :: (js, true, mapO kvs) :: (EL ++ (entsO l ++ R)))) = (ED ++ ((i, true, srcC lv js kn dv sz) :: (js, true, mapO kvs) :: (EL ++ entsO l))) ++ R := fun R => by simp
  rw [hx R, hx (E ++ R)]
  exact List.perm_append_comm_assoc _ _ _)
theorem SS.unL {E : Own} (s : SS h0 M h i js l ds lv dv kn sz kvs EL ED (E ++ R)) : SS h0 M h i js l ds lv dv kn sz kvs EL ED R := s.unR (List.sublist_append_right _ _)
theorem shortOp0 : shortOp 0 < tbl.length := by decide
theorem grow_sp (hF : FieldsOk) (hL : LdexpOk) (hl : l.length < 10000000) {f : Str → Option Int} {jk : Nat} {kv : KV} (nd : (keysA kv).Nodup) (hf : ∀ k, lookA k kv = f k) (w : ∀ x ∈ l, PlE x.2)
    (s : SS h0 M h i js l ds lv dv (.map jk) sz kvs EL ED ((jk, true, mapO kv) :: R))
    (k : ∀ h', SS h0 M h' i js (l.map fun x => (x.1, growE f x.2)) ds lv dv (.map jk) sz kvs EL ED ((jk, true, mapO kv) :: R) → Q (B ((l.map (·.2)).any (growB f))) h') : C fn_asm_source_grow [.ptr i 0] h Q := by
  refine asm_source_grow_ok _ _ _ ?_
  unfold asm_source_grow
  have si := St.startr s.src
  (repeat (first | refine st_nil ?_ | refine st_fa ?_ | refine st_load1 ‹_› (.head _) rfl ?_))
  clear si
  refine s.row.len ?_
  let pB : Nat × En → Bool := fun x => growB f x.2
  refine st_loop (fun n vs h' => ∃ (q : Nat) (v : AV) (E : Own), vs = [v, I (q : Nat)] ∧ n + q = l.length ∧ AccE 1 v ((l.take q).filter pB).length (((l.take q).filter pB).flatMap pE) E ∧ SS h0 M h' i js l ds lv dv (.map jk) sz kvs EL ED (E ++ ((jk, true, mapO kv) :: R))) l.length ⟨0, .full 0 [], [], rfl, by omega, .none 1, s⟩ ?_
  rintro n vs h1 ⟨q, v, E, rfl, hn, a, s1⟩
  unfold asm_source_grow_l11
  (repeat refine st_lss ?_)
  refine st_if (fun hq => ?_) (fun hq => ?_) <;> simp only [za, zb, zc, zd, ze, zf, zg, zh, zi, u8i, zj, zk, zl] at hq
  · have hq : q < l.length := hq
    have hm := List.getElem_mem hq
    have hw := w _ hm
    have hlo := hw.lo
    have hhi := hw.hi
    have hfl : ((l.take q).filter pB).length ≤ q := by
      have := List.length_filter_le pB (l.take q)
      rw [List.length_take] at this; omega
    refine s1.row.idx (fun _ => rfl) hq fun p t => ?_
    refine st_pload1 t ?_
    have sp := St.startr (s1.ent _ hm)
    have si := St.startr s1.src
    unfold enE at sp
    have hno : pB l[q] = false → (l.take (q + 1)).filter pB = (l.take q).filter pB := fun hb => by
      rw [List.take_succ_eq_append_getElem hq, List.filter_append]; simp [hb]
    have hyes : pB l[q] = true → (l.take (q + 1)).filter pB = (l.take q).filter pB ++ [l[q]] := fun hb => by
      rw [List.take_succ_eq_append_getElem hq, List.filter_append]; simp [hb]
    have skip : pB l[q] = false → ∀ h', SS h0 M h' i js l ds lv dv (.map jk) sz kvs EL ED (E ++ ((jk, true, mapO kv) :: R)) → asm_source_grow_b2 v (I (q : Nat)) h' (fun vs' h' => ∃ m, m < n ∧ ∃ (q : Nat) (v : AV) (E : Own), vs' = [v, I (q : Nat)] ∧ m + q = l.length ∧ AccE 1 v ((l.take q).filter pB).length (((l.take q).filter pB).flatMap pE) E ∧ SS h0 M h' i js l ds lv dv (.map jk) sz kvs EL ED (E ++ ((jk, true, mapO kv) :: R))) := by
      intro hb h' s'
      unfold asm_source_grow_b2 asm_source_grow_j1
      refine st_add (by omega) ?_
      exact ⟨n - 1, by omega, q + 1, v, E, rfl, by omega, by rw [hno hb]; exact a, s'⟩
    refine st_nil (st_fa (st_fa (st_load1 sp (.head _) rfl (st_neq ?_))))
    refine st_if (fun h2 => ?_) (fun h2 => ?_) <;> simp only [za, zb, zc, zd, ze, zf, zg, zh, zi, u8i, zj, zk, zl] at h2
    · exact skip (by show growB f l[q].2 = false; unfold growB; rw [show decide (l[q].2.x.2.kind = 2) = false by simp; omega]; rfl) h1 s1
    · have h2 : l[q].2.x.2.kind = 2 := by omega
      refine st_nil (st_fa (st_load1 sp (.head _) rfl ?_))
      have hgb : pB l[q] = (!l[q].2.grown && (decide ((evalF l[q].2.place f (lastE l[q].2)).2 = 0) && !(codeM (shortOp 0) [(evalF l[q].2.place f (lastE l[q].2)).1 - l[q].2.place]).isSome)) := by
        show growB f l[q].2 = _
        unfold growB; rw [show decide (l[q].2.x.2.kind = 2) = true by simpa using h2, Bool.true_and]
      cases hg : l[q].2.grown with
      | true => exact st_if (fun _ => skip (by rw [hgb, hg]; rfl) h1 s1) (fun h => by cases h)
      | false =>
        refine st_if (fun h => by cases h) (fun _ => ?_)
        rw [hg, Bool.not_false, Bool.true_and] at hgb
        have hrd : 0 < l[q].2.x.2.args.length := by
          have := (hw.wf.grow h2).2.1
          have h3 : ∀ n, n < 3 → 0 < (flds (opKinds (shortOp n))).length := by decide
          have := h3 _ (hw.wf.grow h2).1
          omega
        have hne : l[q].2.x.2.args ≠ [] := List.length_pos_iff.1 hrd
        have hlast := wf_last hw.wf hne
        refine st_nil (st_fa (st_load1 sp (.head _) rfl (st_nil (st_fa (st_load1 si (.head _) rfl ?_)))))
        refine last_sp (s1.ent _ hm) hw.wf hne fun h3 f3 => ?_
        refine ⟨st_load1 (si.call f3) (.head _) rfl rfl, st_load1 (sp.call f3) (.head _) rfl rfl, ?_⟩
        have mm : MapAt h1 jk f := ⟨kv, s1.rget (List.mem_append_right _ (.head _)), nd, hf⟩
        refine asmEval_sp hlast.1 hlast.2 _ (mm.fr f3) fun h4 f4 => ?_
        have s4 := (s1.call f3).call f4
        have hin := evalF_in l[q].2.place f (lastE l[q].2)
        generalize evalF l[q].2.place f (lastE l[q].2) = ev at hgb hin ⊢
        refine st_ext rfl (st_ext rfl (st_eql ?_))
        refine st_if (fun he => ?_) (fun he => ?_) <;> simp only [za, zb, zc, zd, ze, zf, zg, zh, zi, u8i, zj, zk, zl] at he
        · rw [show decide (ev.2 = 0) = true by simpa using he, Bool.true_and] at hgb
          have sp4 := St.startr (s4.ent _ hm)
          unfold enE at sp4
          refine st_nil (st_fa (st_load1 sp4 (.head _) rfl (st_sub (by omega) (st_buildS rfl rfl ?_))))
          refine short_sp (n := 0) (by decide) fun h5 f5 => ?_
          refine ⟨st_load1 (sp4.call f5) (.head _) rfl rfl, ?_⟩
          refine st_build rfl ?_
          have s5 := s4.call f5
          refine right_sp hF hL shortOp0 [ev.1 - l[q].2.place] (by intro x hx; simp at hx; subst hx; unfold Small; omega) (Row.full (enc := iE) (fun _ => rfl) [ev.1 - l[q].2.place]) fun h6 f6 => ?_
          have s6 := s5.call f6
          refine st_not ?_
          cases hc : (codeM (shortOp 0) [ev.1 - l[q].2.place]).isSome with
          | true => exact st_if (fun h => by cases h) (fun _ => skip (by rw [hgb, hc]; rfl) h6 s6)
          | false =>
            refine st_if (fun _ => ?_) (fun h => by cases h)
            refine st_buildS rfl rfl ?_
            have hb : pB l[q] = true := by rw [hgb, hc]; rfl
            refine a.app s6.backL (xs := pE l[q]) (m := 1) (Rd.full rfl) rfl (by omega) fun v3 E3 h8 a3 s8 => ?_
            unfold asm_source_grow_b2 asm_source_grow_j1
            refine st_add (by omega) ?_
            refine ⟨n - 1, by omega, q + 1, v3, E3, rfl, by omega, ?_, SS.frontL s8 s6.unL⟩
            rw [hyes hb]; simpa using a3
        · exact skip (by rw [hgb, show decide (ev.2 = 0) = false by simpa using he]; rfl) h4 s4
  · have hq : q = l.length := by omega
    subst hq
    rw [List.take_length] at a
    have hflen : (l.filter pB).length ≤ l.length := List.length_filter_le _ _
    have rowF : ∀ h l', SS h0 M h i js l' ds lv dv (.map jk) sz kvs EL ED (E ++ ((jk, true, mapO kv) :: R)) → Row pE 1 h v (l.filter pB) := fun h l' s => a.rd s.backL
    refine (rowF _ _ s1).len ?_
    have hany : (l.map (·.2)).any (growB f) = decide (0 < (l.filter pB).length) := by
      rw [List.any_map, Bool.eq_iff_iff, decide_eq_true_eq, List.any_eq_true]
      constructor
      · rintro ⟨x, hx, hp⟩; exact List.length_pos_of_mem (List.mem_filter.2 ⟨hx, hp⟩)
      · intro hp
        obtain ⟨x, hx⟩ := List.exists_mem_of_length_pos hp
        rw [List.mem_filter] at hx
        exact ⟨x, hx.1, hx.2⟩
    rw [hany] at k
    have hall : (l.map fun x => (x.1, growE f x.2)) = grF pB (l.filter pB).length l := by
      rw [grF_all]
      apply List.map_congr_left
      intro x _
      unfold growE
      show _ = if growB f x.2 = true then _ else _
      split <;> rfl
    rw [hall] at k
    refine st_loop (fun n vs h' => ∃ (t : Nat), vs = [I (t : Nat)] ∧ n + t = (l.filter pB).length ∧ SS h0 M h' i js (grF pB t l) ds lv dv (.map jk) sz kvs EL ED (E ++ ((jk, true, mapO kv) :: R))) (l.filter pB).length ⟨0, rfl, by omega, by rw [grF_zero]; exact s1⟩ ?_
    rintro n2 vs h2 ⟨t, rfl, hn2, s2⟩
    unfold asm_source_grow_l10
    (repeat refine st_lss ?_)
    refine st_if (fun ht => ?_) (fun ht => ?_) <;> simp only [za, zb, zc, zd, ze, zf, zg, zh, zi, u8i, zj, zk, zl] at ht
    · have ht : t < (l.filter pB).length := ht
      refine (rowF _ _ s2).idx (fun _ => rfl) ht fun p2 t2 => ?_
      refine st_pload1 t2 ?_
      obtain ⟨q, hq, h1q, h2q⟩ := grF_step pB l t ht
      rw [← h1q] at h2q ⊢
      refine st_nil (st_fa ?_)
      refine st_store (L' := ED ++ ((i, true, srcC lv js (.map jk) dv sz) :: (js, true, mapO kvs) :: (EL ++ (entsO ((grF pB t l).set q ((grF pB t l)[q].1, enGr (grF pB t l)[q].2)) ++ (E ++ ((jk, true, mapO kv) :: R)))))) (cs := enE (grF pB t l)[q].2) s2.st (SS.subE hq (enGr (grF pB t l)[q].2)) rfl rfl rfl (nle rfl) fun h3 s3 => ?_
      have s3 := s2.setE hq s3
      refine st_add (by omega) ?_
      refine ⟨n2 - 1, by omega, t + 1, rfl, by omega, ?_⟩
      rw [h2q]; exact s3
    · have ht : t = (l.filter pB).length := by omega
      rw [ht] at s2
      refine (rowF _ _ s2).len ?_
      refine st_gtr ?_
      rw [show decide ((0 : Int) < ((l.filter pB).length : Nat)) = decide (0 < (l.filter pB).length) by simp]
      exact k h2 s2.unL
end
end
end
section
noncomputable section
section
variable [Tabs]
abbrev Pl := List En × (Str → Option Int) × Int
def plFix (f : Str → Option Int) : Nat → List En → Pl
  | 0, es => layM f es
  | n + 1, es => if (layM f es).1.any (growB (layM f es).2.1) = true then plFix f n ((layM f es).1.map (growE (layM f es).2.1)) else layM f es
def unG (e : En) : Bool := decide (e.x.2.kind = 2) && !e.grown
theorem growE_x (f : Str → Option Int) (e : En) : (growE f e).x = e.x ∧ (growE f e).frag = e.frag ∧ (growE f e).place = e.place := by unfold growE; split <;> exact ⟨rfl, rfl, rfl⟩
theorem placeL_unG (syms : Str → Option Int) : ∀ (es : List En) (st : List En × Int), ((es.foldl (placeS syms) st).1).countP unG = st.1.countP unG + es.countP unG
  | [], st => by simp
  | e :: es, st => by
    rw [List.foldl_cons, placeL_unG syms es, List.countP_cons]
    simp only [placeS, List.countP_append, List.countP_cons, List.countP_nil]
    have : unG (enAt e st.2) = unG e := rfl
    rw [this]; omega
theorem growM_unG {f : Str → Option Int} {es : List En} (h : es.any (growB f) = true) : (es.map (growE f)).countP unG < es.countP unG := by
  rw [List.countP_map]
  refine countP_lt (fun e he hp => ?_) ?_
  · simp only [Function.comp] at hp
    unfold growE at hp
    split at hp
    · simp [unG, enGr] at hp
    · exact hp
  · rw [List.any_eq_true] at h
    obtain ⟨e, he, hg⟩ := h
    refine ⟨e, he, ?_, ?_⟩
    · unfold growB at hg; unfold unG
      simp only [Bool.and_eq_true] at hg ⊢
      exact ⟨hg.1, hg.2.1⟩
    · simp only [Function.comp]
      unfold growE; rw [if_pos hg]; simp [unG, enGr]
theorem any_unG {f : Str → Option Int} {es : List En} (h : es.any (growB f) = true) : 0 < es.countP unG := by
  have := growM_unG h; omega
variable {h0 h h' : AHeap} {M : List Nat} {Q : QT} {K : AV → Prop}
variable {i js : Nat} {l : List (Nat × En)} {ds : List Dg} {lv dv kn : AV} {sz : Int} {kvs : KV} {EL ED R : Own}
theorem lay_wf {f : Str → Option Int} {es : List En} (hl : es.length < 100000) (w : ∀ e ∈ es, WfS e.x.2) (hs : ∀ e ∈ es, SzOk f e) : ∀ e ∈ (layM f es).1, PlE e ∧ SzOk f e := by
  intro e he
  have := placeL_at w hs es.length (Nat.le_refl _) e (by rw [List.take_length]; exact he)
  obtain ⟨⟨e0, h0, h1, h2, h3⟩, h4, h5⟩ := this
  refine ⟨⟨by rw [h1]; exact w _ h0, h4, by omega⟩, ?_⟩
  have := hs _ h0
  unfold SzOk lastE lastA at this ⊢
  rw [h1]; exact this
theorem layM_len (f : Str → Option Int) (es : List En) : (layM f es).1.length = es.length := by
  have := placeL_len f es ([], 0)
  simpa [layM, placeL] using this
theorem places_sp (hF : FieldsOk) (hL : LdexpOk) (hl : l.length < 100000) {f : Str → Option Int} (nds : (keysA kvs).Nodup) (hfs : ∀ k, lookA k kvs = f k) (w : ∀ x ∈ l, WfS x.2.x.2) (hs : ∀ x ∈ l, SzOk f x.2) (hds : ds = [])
    (s : SS h0 M h i js l ds lv dv kn sz kvs EL ED R)
    (k : ∀ l' jk kv' dv' ED' h', l'.map (·.1) = l.map (·.1) → l'.map (·.2) = (plFix f l.length (l.map (·.2))).1 → (∀ x ∈ l', PlE x.2 ∧ SzOk f x.2) → (keysA kv').Nodup → (∀ k, lookA k kv' = (plFix f l.length (l.map (·.2))).2.1 k) →
      SS h0 M h' i js l' (if 4096 < (plFix f l.length (l.map (·.2))).2.2 then [([], 0, 8)] else []) lv dv' (.map jk) (plFix f l.length (l.map (·.2))).2.2 kvs EL ED' ((jk, true, mapO kv') :: R) → Q (.tup []) h') : C fn_asm_source_places [.ptr i 0] h Q := by
  subst hds
  generalize hP : plFix f l.length (l.map (·.2)) = P at k
  refine asm_source_places_ok _ _ _ ?_
  unfold asm_source_places
  refine lay_sp hl nds hfs w hs s fun l1 jk1 kv1 h1 hm1 he1 nd1 hf1 s1 => ?_
  have hw1 : ∀ e ∈ l.map (·.2), WfS e.x.2 := by
    intro e he; rw [List.mem_map] at he; obtain ⟨x, hx, rfl⟩ := he; exact w x hx
  have hs1 : ∀ e ∈ l.map (·.2), SzOk f e := by
    intro e he; rw [List.mem_map] at he; obtain ⟨x, hx, rfl⟩ := he; exact hs x hx
  refine st_loop (fun n vs h' => ∃ (es : List En) (l1 : List (Nat × En)) (jk : Nat) (kv : KV), vs = [] ∧ es.length < 100000 ∧ (∀ e ∈ es, WfS e.x.2) ∧ (∀ e ∈ es, SzOk f e) ∧ l1.map (·.1) = l.map (·.1) ∧ l1.map (·.2) = (layM f es).1 ∧ (keysA kv).Nodup ∧ (∀ k, lookA k kv = (layM f es).2.1 k) ∧
    es.countP unG ≤ n ∧ plFix f n es = P ∧ SS h0 M h' i js l1 [] lv dv (.map jk) (layM f es).2.2 kvs EL ED ((jk, true, mapO kv) :: R)) l.length ⟨l.map (·.2), l1, jk1, kv1, rfl, by simpa using hl, hw1, hs1, hm1, he1, nd1, hf1, by have := List.countP_le_length (p := unG) (l := l.map (·.2)); simpa using this, hP, s1⟩ ?_
  rintro n vs h2 ⟨es, l2, jk, kv, rfl, hel, hwe, hse, hm2, he2, nd2, hf2, hcnt, hfix, s2⟩
  unfold asm_source_places_l5
  have hl2 : l2.length = l.length := by simpa using congrArg List.length hm2
  have hwl : ∀ x ∈ l2, PlE x.2 ∧ SzOk f x.2 := fun x hx => lay_wf hel hwe hse x.2 (by rw [← he2]; exact List.mem_map.2 ⟨x, hx, rfl⟩)
  have hcl : (layM f es).1.countP unG = es.countP unG := by
    have := placeL_unG f es ([], 0)
    simpa [layM, placeL] using this
  refine grow_sp hF hL (by omega) nd2 hf2 (fun x hx => (hwl x hx).1) s2 fun h3 s3 => ?_
  rw [he2]
  cases hany : (layM f es).1.any (growB (layM f es).2.1) with
  | true =>
    refine st_if (fun _ => ?_) (fun h => by cases h)
    have hpos := any_unG hany
    obtain ⟨m, rfl⟩ : ∃ m, n = m + 1 := ⟨n - 1, by omega⟩
    rw [plFix, if_pos hany] at hfix
    have hmap2 : (l2.map fun x => (x.1, growE (layM f es).2.1 x.2)).map (·.2) = (layM f es).1.map (growE (layM f es).2.1) := by
      rw [List.map_map, ← he2, List.map_map]; rfl
    have hmap1 : (l2.map fun x => (x.1, growE (layM f es).2.1 x.2)).map (·.1) = l.map (·.1) := by
      rw [List.map_map, ← hm2]; rfl
    refine lay_sp (by rw [List.length_map]; omega) nds hfs (fun x hx => ?_) (fun x hx => ?_) s3 fun l4 jk4 kv4 h4 hm4 he4 nd4 hf4 s4 => ?_
    · rw [List.mem_map] at hx; obtain ⟨y, hy, rfl⟩ := hx
      simp only [(growE_x _ _).1]; exact (hwl y hy).1.wf
    · rw [List.mem_map] at hx; obtain ⟨y, hy, rfl⟩ := hx
      have := (hwl y hy).2
      unfold SzOk lastE lastA at this ⊢
      simp only [(growE_x _ _).1]; exact this
    rw [hmap2] at he4 hf4 s4
    refine ⟨m, by omega, (layM f es).1.map (growE (layM f es).2.1), l4, jk4, kv4, rfl, by rw [List.length_map, layM_len]; exact hel, fun e he => ?_, fun e he => ?_, by rw [hm4, hmap1], he4, nd4, hf4, ?_, hfix, s4.unR ((List.sublist_cons_self _ _).cons₂ _)⟩
    · rw [List.mem_map] at he; obtain ⟨y, hy, rfl⟩ := he
      rw [(growE_x _ _).1]; exact (lay_wf hel hwe hse y hy).1.wf
    · rw [List.mem_map] at he; obtain ⟨y, hy, rfl⟩ := he
      have := (lay_wf hel hwe hse y hy).2
      unfold SzOk lastE lastA at this ⊢
      rw [(growE_x _ _).1]; exact this
    · have := growM_unG hany; omega
  | false =>
    refine st_if (fun h => by cases h) (fun _ => ?_)
    have hP2 : layM f es = P := by
      rw [← hfix]
      cases n with
      | zero => rfl
      | succ n => rw [plFix, if_neg (by rw [hany]; simp)]
    have hid : (l2.map fun x => (x.1, growE (layM f es).2.1 x.2)) = l2 := by
      have : ∀ x ∈ l2, (x.1, growE (layM f es).2.1 x.2) = x := by
        intro x hx
        have hx2 : x.2 ∈ (layM f es).1 := by rw [← he2]; exact List.mem_map.2 ⟨x, hx, rfl⟩
        rw [List.any_eq_false] at hany
        have := hany _ hx2
        unfold growE; rw [if_neg this]
      conv => rhs; rw [← List.map_id l2]
      exact List.map_congr_left this
    rw [hid] at s3
    rw [hP2] at he2 hf2 s3
    have si := St.startr s3.src
    (repeat (first | refine st_nil ?_ | refine st_fa ?_ | refine st_gtr ?_ | refine st_load1 ‹_› (.head _) rfl ?_))
    clear si
    refine st_if (fun hb => ?_) (fun hb => ?_) <;> simp only [za, zb, zc, zd, ze, zf, zg, zh, zi, u8i, zj, zk, zl] at hb
    · rw [if_pos hb] at k
      refine tell_sp (by simp) s3 fun dv' ED' h4 s4 => ?_
      exact k l2 jk kv dv' ED' h4 hm2 he2 hwl nd2 hf2 s4
    · rw [if_neg (by omega)] at k
      exact k l2 jk kv dv ED h3 hm2 he2 hwl nd2 hf2 s3
end
end
end
section
noncomputable section
abbrev Fg := Str × Str
def frE (x : Fg) : List AV := [T x.1, T x.2]
def symS (f : Str → Option Int) (y : Sy) : Str → Option Int := upd f y.1 y.2
def symF (syms : List Sy) : Str → Option Int := syms.foldl symS fun _ => none
def mkE (n : Str) (x : Sm) : En := ⟨n, x, 0, false⟩
section
variable [Tabs]
def fragE (x : Fg) : List En := (parseS x.2).map (mkE x.1)
def fragD (x : Fg) : List Dg := (parseB x.2).map fun k => (x.1, k, 1)
def readE (l : List Fg) : List En := l.flatMap fragE
def readD (l : List Fg) : List Dg := l.flatMap fragD
variable {h0 h h' : AHeap} {M : List Nat} {Q : QT} {K : AV → Prop} {KS : AHeap → Prop}
variable {i js : Nat} {l : List (Nat × En)} {ds : List Dg} {lv dv kn : AV} {sz : Int} {kvs : KV} {EL ED R : Own}
theorem SS.subK {kvs' : KV} : Sub (ED ++ ((i, true, srcC lv js kn dv sz) :: (js, true, mapO kvs) :: (EL ++ (entsO l ++ R)))) (js, true, mapO kvs) (ED ++ ((i, true, srcC lv js kn dv sz) :: (js, true, mapO kvs') :: (EL ++ (entsO l ++ R)))) (js, true, mapO kvs') := Sub.pre (.tail .head) _
theorem addE_sp {e : En} {p : Nat} (hl : l.length < 1000000000) (s : SS h0 M h i js l ds lv dv kn sz kvs EL ED ((p, true, .cells (enE e)) :: R))
    (k : ∀ lv' EL' h', SS h0 M h' i js (l ++ [(p, e)]) ds lv' dv kn sz kvs EL' ED R → KS h') : qAppend 1 8 lv (.full 1 [.ptr p 0]) h fun t63 h14 => qNil (.ptr i 0) fun t64 => qFieldAddr 0 t64 fun t65 => qStore 1 t65 t63 h14 KS := by
  have hz : entsO l ++ ((p, true, AObj.cells (enE e)) :: R) = entsO (l ++ [(p, e)]) ++ R := by simp [entsO]
  have hx : ∀ (lv : AV) (EL : Own), (ED ++ ((i, true, srcC lv js kn dv sz) :: (js, true, mapO kvs) :: (EL ++ (entsO (l ++ [(p, e)]) ++ R)))) = (ED ++ [(i, true, srcC lv js kn dv sz), (js, true, mapO kvs)]) ++ (EL ++ (entsO (l ++ [(p, e)]) ++ R)) := fun lv EL => by simp
  have hy : ∀ (lv : AV), (ED ++ ((i, true, srcC lv js kn dv sz) :: (js, true, mapO kvs) :: (entsO (l ++ [(p, e)]) ++ R))) = (ED ++ [(i, true, srcC lv js kn dv sz), (js, true, mapO kvs)]) ++ (entsO (l ++ [(p, e)]) ++ R) := fun lv => by simp
  have hs := s.st
  rw [hz, hx] at hs
  refine s.al.app (hs.perm (List.perm_append_comm_assoc _ _ _)) (xs := pE (p, e)) (m := 1) (Rd.full rfl) rfl (by omega) fun lv' EL' h1 a1 s1 => ?_
  rw [← hy] at s1
  refine st_nil (st_fa ?_)
  refine st_storeV (L' := EL' ++ (ED ++ ((i, true, srcC lv' js kn dv sz) :: (js, true, mapO kvs) :: (entsO (l ++ [(p, e)]) ++ R)))) a1.v1 s1 (Sub.pre (Sub.pre .head _) _) (nle rfl) fun h2 s2 => ?_
  rw [hy] at s2
  refine k lv' EL' h2 ⟨by simpa using a1, s.ad, ?_⟩
  rw [hx]
  exact s2.perm (List.perm_append_comm_assoc _ _ _)
theorem flatMap_take_le {α β : Type} (g : α → List β) (l : List α) (q : Nat) : ((l.take q).flatMap g).length ≤ (l.flatMap g).length := by
  conv => rhs; rw [← List.take_append_drop q l]
  rw [List.flatMap_append, List.length_append]; omega
theorem flatMap_take_succ {α β : Type} (g : α → List β) {l : List α} {q : Nat} (hq : q < l.length) : (l.take (q + 1)).flatMap g = (l.take q).flatMap g ++ g l[q] := by
  rw [List.take_succ_eq_append_getElem hq, List.flatMap_append, List.flatMap_cons, List.flatMap_nil, List.append_nil]
theorem read_sp (hF : FieldsOk) (hI : IndexOk) (hA : AtoiOk) {frags : List Fg} {syms : List Sy} {fv sv : AV} (rf : Row frE 2 h fv frags) (rs : Row syE 2 h sv syms) (hfl : frags.length < 1000000) (hsl : syms.length < 1000000) (he : (readE frags).length < 100000) (hd : (readD frags).length < 1000000) (ht : ∀ x ∈ frags, x.2.length < 1000000000)
    (k : ∀ i js l lv dv kvs EL ED h', l.map (·.2) = readE frags → (keysA kvs).Nodup → (∀ k, lookA k kvs = symF syms k) → SS h [] h' i js l (readD frags) lv dv (.lit (.map none)) 0 kvs EL ED [] → Q (.ptr i 0) h') : C fn_asm_read [fv, sv] h Q := by
  refine asm_read_ok _ _ _ _ ?_
  unfold asm_read
  refine st_makeMap (St.start h) fun js h1 s1 => ?_
  refine st_build rfl ?_
  refine st_box s1 rfl fun i h2 s2 => ?_
  have s2 : SS h [] h2 i js [] [] (.full 0 []) (.full 0 []) (.lit (.map none)) 0 [] [] [] [] := ⟨.none 1, .none 3, s2⟩
  refine rs.len ?_
  refine st_loop (fun n vs h' => ∃ (q : Nat) (kvs : KV), vs = [I (q : Nat)] ∧ n + q = syms.length ∧ (keysA kvs).Nodup ∧ (∀ k, lookA k kvs = ((syms.take q).foldl symS fun _ => none) k) ∧ SS h [] h' i js [] [] (.full 0 []) (.full 0 []) (.lit (.map none)) 0 kvs [] [] []) syms.length ⟨0, [], rfl, by omega, by simp [keysA], fun k => rfl, s2⟩ ?_
  rintro n vs h3 ⟨q, kvs, rfl, hn, nd, hf, s3⟩
  unfold asm_read_l21
  (repeat refine st_lss ?_)
  refine st_if (fun hq => ?_) (fun hq => ?_) <;> simp only [za, zb, zc, zd, ze, zf, zg, zh, zi, u8i, zj, zk, zl] at hq
  · have hq : q < syms.length := hq
    refine (rs.fr s3.st.fr).idx (fun _ => rfl) hq fun p t => ?_
    refine st_ploadAll t rfl ?_
    refine st_new s3.st fun t7 h4 s4 => ?_
    have s4 := s3.front s4
    refine st_store (L' := [] ++ ((i, true, srcC (.full 0 []) js (.lit (.map none)) (.full 0 []) 0) :: (js, true, mapO kvs) :: ([] ++ (entsO [] ++ ((t7, true, .cells (syE syms[q])) :: []))))) (cs := [T [], I 0]) s4.st (SS.subR .head) rfl rfl rfl (nle rfl) fun h5 s5 => ?_
    have s5 : SS h [] h5 i js [] [] (.full 0 []) (.full 0 []) (.lit (.map none)) 0 kvs [] [] [(t7, true, .cells (syE syms[q]))] := ⟨.none 1, .none 3, s5⟩
    have si := St.startr s5.src
    refine st_nil (st_fa (st_load1 si (.head _) rfl (st_fa (st_load1 s5.st (SS.memR (.head _)) rfl (st_fa (st_load1 s5.st (SS.memR (.head _)) rfl ?_))))))
    refine st_mapUpd s5.st SS.subK fun h6 s6 => ?_
    refine st_add (by omega) ?_
    have s6 : SS h [] h6 i js [] [] (.full 0 []) (.full 0 []) (.lit (.map none)) 0 (putA syms[q].1 syms[q].2 kvs) [] [] [(t7, true, .cells (syE syms[q]))] := ⟨.none 1, .none 3, s6⟩
    refine ⟨n - 1, by omega, q + 1, _, rfl, by omega, putA_nodup nd, fun k => ?_, s6.unR (List.nil_sublist _)⟩
    rw [List.take_succ_eq_append_getElem hq, List.foldl_append, lookA_putA, hf]; rfl
  · have hq : q = syms.length := by omega
    subst hq
    rw [List.take_length] at hf
    refine (rf.fr s3.st.fr).len ?_
    refine st_loop (fun n vs h' => ∃ (q : Nat) (l : List (Nat × En)) (lv dv : AV) (EL ED : Own), vs = [I (q : Nat)] ∧ n + q = frags.length ∧ l.map (·.2) = (frags.take q).flatMap fragE ∧ SS h [] h' i js l ((frags.take q).flatMap fragD) lv dv (.lit (.map none)) 0 kvs EL ED []) frags.length ⟨0, [], .full 0 [], .full 0 [], [], [], rfl, by omega, rfl, s3⟩ ?_
    rintro n vs h4 ⟨q, l, lv, dv, EL, ED, rfl, hn, hel, s4⟩
    unfold asm_read_l20
    (repeat refine st_lss ?_)
    refine st_if (fun hq => ?_) (fun hq => ?_) <;> simp only [za, zb, zc, zd, ze, zf, zg, zh, zi, u8i, zj, zk, zl] at hq
    · have hq : q < frags.length := hq
      refine (rf.fr s4.st.fr).idx (fun _ => rfl) hq fun p t => ?_
      refine st_ploadAll t rfl ?_
      have htl := ht _ (List.getElem_mem hq)
      have hle := flatMap_take_le fragE frags (q + 1)
      have hld := flatMap_take_le fragD frags (q + 1)
      rw [flatMap_take_succ fragE hq, List.length_append] at hle
      rw [flatMap_take_succ fragD hq, List.length_append] at hld
      have hll : l.length = ((frags.take q).flatMap fragE).length := by rw [← hel]; simp
      have he' : (frags.flatMap fragE).length < 100000 := he
      have hd' : (frags.flatMap fragD).length < 1000000 := hd
      have hle := Nat.lt_of_le_of_lt hle he'
      have hld := Nat.lt_of_le_of_lt hld hd'
      have hsE := flatMap_take_succ fragE hq
      have hsD := flatMap_take_succ fragD hq
      have hfrE : fragE frags[q] = (parseS frags[q].2).map (mkE frags[q].1) := rfl
      have hfrD : fragD frags[q] = (parseB frags[q].2).map fun k => (frags[q].1, k, 1) := rfl
      rw [hfrE] at hle hsE
      rw [hfrD] at hld hsD
      generalize hfr : frags[q] = fr at htl hle hld hsE hsD ⊢
      generalize hpe : (frags.take q).flatMap fragE = pe at hel hle hll hsE
      generalize hpd : (frags.take q).flatMap fragD = pd at s4 hld hsD
      refine st_new s4.st fun t9 h5 s5 => ?_
      have s5 := s4.front s5
      refine st_store (L' := ED ++ ((i, true, srcC lv js (.lit (.map none)) dv 0) :: (js, true, mapO kvs) :: (EL ++ (entsO l ++ ((t9, true, .cells (frE fr)) :: []))))) (cs := [T [], T []]) s5.st (SS.subR .head) rfl rfl rfl (nle rfl) fun h6 s6 => ?_
      have s6 : SS h [] h6 i js l pd lv dv (.lit (.map none)) 0 kvs EL ED [(t9, true, .cells (frE fr))] := ⟨s4.al, s4.ad, s6⟩
      refine st_fa (st_load1 s6.st (SS.memR (.head _)) rfl ?_)
      refine lineParse_sp hF hI hA fr.2 htl fun h7 f7 => ?_
      have s7 := s6.call f7
      refine st_ext rfl (st_ext rfl ?_)
      have RS : ∀ h, Row smF 6 h (.snap (parseS fr.2).length ((parseS fr.2).flatMap smF)) (parseS fr.2) := fun h => Row.snap (enc := smF) (fun _ => rfl) _
      have RB : ∀ h, Row nE 1 h (.snap (parseB fr.2).length ((parseB fr.2).flatMap nE)) (parseB fr.2) := fun h => Row.snap (enc := nE) (fun _ => rfl) _
      rw [List.length_map] at hle hld
      generalize parseS fr.2 = ps at RS hle hsE ⊢
      generalize parseB fr.2 = pb at RB hld hsD ⊢
      refine (RS h7).len ?_
      refine st_loop (fun n2 vs h' => ∃ (j : Nat) (l : List (Nat × En)) (lv : AV) (EL : Own), vs = [I (j : Nat)] ∧ n2 + j = ps.length ∧ l.map (·.2) = pe ++ (ps.take j).map (mkE fr.1) ∧ SS h [] h' i js l pd lv dv (.lit (.map none)) 0 kvs EL ED [(t9, true, .cells (frE fr))]) ps.length ⟨0, l, lv, EL, rfl, by omega, by simpa using hel, s7⟩ ?_
      rintro n2 vs h8 ⟨j, l8, lv8, EL8, rfl, hn2, hel8, s8⟩
      unfold asm_read_l19
      have hl8 : l8.length ≤ 100000 := by
        have := congrArg List.length hel8
        simp only [List.length_map, List.length_append, List.length_take] at this
        omega
      (repeat refine st_lss ?_)
      refine st_if (fun hj => ?_) (fun hj => ?_) <;> simp only [za, zb, zc, zd, ze, zf, zg, zh, zi, u8i, zj, zk, zl] at hj
      · have hj : j < ps.length := hj
        refine (RS h8).idx (fun _ => rfl) hj fun p t => ?_
        refine st_ploadAll t rfl ?_
        refine st_new s8.st fun t13 h9 s9 => ?_
        have s9 := s8.front s9
        refine st_store (L' := ED ++ ((i, true, srcC lv8 js (.lit (.map none)) dv 0) :: (js, true, mapO kvs) :: (EL8 ++ (entsO l8 ++ ((t13, true, .cells (smF ps[j])) :: (t9, true, .cells (frE fr)) :: []))))) (cs := [I 0, T [], I 0, I 0, T [], .full 0 []]) s9.st (SS.subR .head) rfl rfl rfl (nle rfl) fun h10 s10 => ?_
        have s10 : SS h [] h10 i js l8 pd lv8 dv (.lit (.map none)) 0 kvs EL8 ED [(t13, true, .cells (smF ps[j])), (t9, true, .cells (frE fr))] := ⟨s8.al, s8.ad, s10⟩
        have si := St.startr s10.src
        refine st_nil (st_fa (st_load1 si (.head _) rfl (st_fa (st_load1 s10.st (SS.memR (.tail _ (.head _))) rfl ?_))))
        refine st_loadA s10.st (SS.memR (.head _)) (nle rfl) ?_
        refine st_build rfl ?_
        refine st_box s10.st rfl fun p11 h11 s11 => ?_
        have s11 : SS h [] h11 i js l8 pd lv8 dv (.lit (.map none)) 0 kvs EL8 ED ((p11, true, .cells (enE (mkE fr.1 ps[j]))) :: [(t13, true, .cells (smF ps[j])), (t9, true, .cells (frE fr))]) := s10.front s11
        have si11 := St.startr s11.src
        refine ⟨st_load1 si11 (.head _) rfl rfl, st_buildS rfl rfl ?_⟩
        refine addE_sp (e := mkE fr.1 ps[j]) (p := p11) (by omega) s11 fun lv' EL' h12 s12 => ?_
        refine st_add (by omega) ?_
        refine ⟨n2 - 1, by omega, j + 1, l8 ++ [(p11, mkE fr.1 ps[j])], lv', EL', rfl, by omega, ?_, s12.unR (List.sublist_cons_self _ _)⟩
        rw [List.map_append, hel8, List.take_succ_eq_append_getElem hj, List.map_append, List.append_assoc]; rfl
      · have hj : j = ps.length := by omega
        subst hj
        rw [List.take_length] at hel8
        refine (RB h8).len ?_
        refine st_loop (fun n3 vs h' => ∃ (b : Nat) (dv : AV) (ED : Own), vs = [I (b : Nat)] ∧ n3 + b = pb.length ∧ SS h [] h' i js l8 (pd ++ (pb.take b).map fun k => (fr.1, k, 1)) lv8 dv (.lit (.map none)) 0 kvs EL8 ED [(t9, true, .cells (frE fr))]) pb.length ⟨0, dv, ED, rfl, by omega, by simpa using s8⟩ ?_
        rintro n3 vs h9 ⟨b, dv9, ED9, rfl, hn3, s9⟩
        unfold asm_read_l18
        (repeat refine st_lss ?_)
        refine st_if (fun hb => ?_) (fun hb => ?_) <;> simp only [za, zb, zc, zd, ze, zf, zg, zh, zi, u8i, zj, zk, zl] at hb
        · have hb : b < pb.length := hb
          refine (RB h9).idx (fun _ => rfl) hb fun p t => ?_
          refine st_pload1 t ?_
          refine st_fa (st_load1 s9.st (SS.memR (.head _)) rfl ?_)
          refine tell_sp (by simp; omega) s9 fun dv' ED' h10 s10 => ?_
          refine st_add (by omega) ?_
          refine ⟨n3 - 1, by omega, b + 1, dv', ED', rfl, by omega, ?_⟩
          rw [List.take_succ_eq_append_getElem hb, List.map_append, ← List.append_assoc]; exact s10
        · have hb : b = pb.length := by omega
          subst hb
          rw [List.take_length] at s9
          refine st_add (by omega) ?_
          refine ⟨n - 1, by omega, q + 1, l8, lv8, dv9, EL8, ED9, rfl, by omega, ?_, ?_⟩
          · rw [hsE]; exact hel8
          · rw [hsD]; exact s9.unR (List.nil_sublist _)
    · have hq : q = frags.length := by omega
      subst hq
      rw [List.take_length] at hel s4
      exact k i js l lv dv kvs EL ED h4 hel nd hf s4
end
end
end
section
noncomputable section
section
variable [Tabs]
def madeP (frags : List Fg) (syms : List Sy) : Pl := plFix (symF syms) (readE frags).length (readE frags)
def madeD (frags : List Fg) (syms : List Sy) : List Dg :=
  if readD frags ≠ [] then readD frags
  else if twiceM (symF syms) (readE frags) ≠ [] then twiceM (symF syms) (readE frags)
  else if (readE frags).flatMap (szD (symF syms)) ≠ [] then (readE frags).flatMap (szD (symF syms))
  else if 4096 < (madeP frags syms).2.2 then [([], 0, 8)]
  else (madeP frags syms).1.flatMap (chD (madeP frags syms).2.1 (madeP frags syms).1)
def imageM (frags : List Fg) (syms : List Sy) : List Int := (madeP frags syms).1.flatMap (bytesM (symF syms) (madeP frags syms).2.1)
structure Few (frags : List Fg) (syms : List Sy) : Prop where
  nf : frags.length < 1000000
  ns : syms.length < 1000000
  ents : (readE frags).length < 100000
  bads : (readD frags).length < 1000000
  texts : ∀ x ∈ frags, x.2.length < 1000000000
  wf : ∀ e ∈ readE frags, WfS e.x.2
variable {h0 h h' : AHeap} {M : List Nat} {Q : QT} {K : AV → Prop} {KS : AHeap → Prop}
theorem made_sp (hF : FieldsOk) (hI : IndexOk) (hA : AtoiOk) (hL : LdexpOk) {frags : List Fg} {syms : List Sy} {fv sv : AV} (rf : Row frE 2 h fv frags) (rs : Row syE 2 h sv syms) (hw : Few frags syms)
    (kb : madeD frags syms ≠ [] → ∀ i js l lv dv kn sz kvs EL ED R h', SS h [] h' i js l (madeD frags syms) lv dv kn sz kvs EL ED R → Q (.ptr i 0) h')
    (kg : madeD frags syms = [] → ∀ i js l lv dv jk kvk kvs EL ED R h', l.map (·.2) = (madeP frags syms).1 → (∀ x ∈ l, PlE x.2 ∧ SzOk (symF syms) x.2) → (keysA kvs).Nodup → (∀ k, lookA k kvs = symF syms k) → (keysA kvk).Nodup → (∀ k, lookA k kvk = (madeP frags syms).2.1 k) →
      SS h [] h' i js l [] lv dv (.map jk) (madeP frags syms).2.2 kvs EL ED ((jk, true, mapO kvk) :: R) → Q (.ptr i 0) h') : C fn_asm_made [fv, sv] h Q := by
  refine asm_made_ok _ _ _ _ ?_
  unfold asm_made
  refine read_sp hF hI hA rf rs hw.nf hw.ns hw.ents hw.bads hw.texts fun i js l lv dv kvs EL ED h1 hel nd hf s1 => ?_
  have hlen : l.length = (readE frags).length := by rw [← hel]; simp
  have hents := hw.ents
  have hwl : ∀ x ∈ l, WfS x.2.x.2 := fun x hx => hw.wf _ (by rw [← hel]; exact List.mem_map.2 ⟨x, hx, rfl⟩)
  refine st_buildS rfl rfl ?_
  refine st_lenL2 ?_
  refine st_loopX 10 ?_
  unfold madeD at kb kg
  refine lx_go ?_
  unfold asm_made_l5
  refine st_lss (st_if (fun _ => ?_) (fun h => by cases h))
  refine st_ridx (h := h1) (sz := 1) (n := 4) (cs := [(.fn (.func fn_asm_source_twice) [.ptr i 0] []), (.fn (.func fn_asm_source_sized) [.ptr i 0] []), (.fn (.func fn_asm_source_places) [.ptr i 0] []), (.fn (.func fn_asm_source_check) [.ptr i 0] [])]) (Rd.full rfl) (j := 0) (by decide) fun p t => ?_
  refine st_pload1 t ?_
  clear t
  have si := St.startr s1.src
  refine st_nil (st_fa (st_load1 si (.head _) rfl ?_))
  refine st_rlen (s1.ad.rd s1.st) ?_
  clear si
  refine st_gtr ?_
  refine st_if (fun h0 => ?_) (fun h0 => ?_) <;> simp only [za, zb, zc, zd, ze, zf, zg, zh, zi, u8i, zj, zk, zl] at h0
  · have hne : readD frags ≠ [] := by intro h; rw [h] at h0; simp at h0
    unfold asm_made_b3 asm_made_j2
    rw [if_pos hne] at kb
    exact kb hne _ _ _ _ _ _ _ _ _ _ _ _ s1
  have hn0 : readD frags = [] := by
    cases hd : readD frags with
    | nil => rfl
    | cons a b => rw [hd] at h0; simp at h0
  rw [hn0] at s1 kb kg
  rw [if_neg (by simp)] at kb kg
  show C fn_asm_source_twice [.ptr i 0] h1 _
  refine twice_sp (by omega) rfl s1 nd hf fun dv2 ED2 h2 s2 => ?_
  rw [hel] at s2
  refine st_add (by decide) (lx_next (lx_go ?_))
  refine st_lss (st_if (fun _ => ?_) (fun h => by cases h))
  refine st_ridx (h := h2) (sz := 1) (n := 4) (cs := [(.fn (.func fn_asm_source_twice) [.ptr i 0] []), (.fn (.func fn_asm_source_sized) [.ptr i 0] []), (.fn (.func fn_asm_source_places) [.ptr i 0] []), (.fn (.func fn_asm_source_check) [.ptr i 0] [])]) (Rd.full rfl) (j := 1) (by decide) fun p t => ?_
  refine st_pload1 t ?_
  clear t
  have si := St.startr s2.src
  refine st_nil (st_fa (st_load1 si (.head _) rfl ?_))
  refine st_rlen (s2.ad.rd s2.st) ?_
  clear si
  refine st_gtr ?_
  refine st_if (fun h0 => ?_) (fun h0 => ?_) <;> simp only [za, zb, zc, zd, ze, zf, zg, zh, zi, u8i, zj, zk, zl] at h0
  · have hne : twiceM (symF syms) (readE frags) ≠ [] := by intro h; rw [h] at h0; simp at h0
    unfold asm_made_b3 asm_made_j2
    rw [if_pos hne] at kb
    exact kb hne _ _ _ _ _ _ _ _ _ _ _ _ s2
  have hn1 : twiceM (symF syms) (readE frags) = [] := by
    cases hd : twiceM (symF syms) (readE frags) with
    | nil => rfl
    | cons a b => rw [hd] at h0; simp at h0
  rw [hn1] at s2 kb kg
  rw [if_neg (by simp)] at kb kg
  show C fn_asm_source_sized [.ptr i 0] h2 _
  refine sized_sp (f := symF syms) (by omega) rfl s2 nd hf hwl fun dv3 ED3 h3 s3 => ?_
  rw [hel] at s3
  refine st_add (by decide) (lx_next (lx_go ?_))
  refine st_lss (st_if (fun _ => ?_) (fun h => by cases h))
  refine st_ridx (h := h3) (sz := 1) (n := 4) (cs := [(.fn (.func fn_asm_source_twice) [.ptr i 0] []), (.fn (.func fn_asm_source_sized) [.ptr i 0] []), (.fn (.func fn_asm_source_places) [.ptr i 0] []), (.fn (.func fn_asm_source_check) [.ptr i 0] [])]) (Rd.full rfl) (j := 2) (by decide) fun p t => ?_
  refine st_pload1 t ?_
  clear t
  have si := St.startr s3.src
  refine st_nil (st_fa (st_load1 si (.head _) rfl ?_))
  refine st_rlen (s3.ad.rd s3.st) ?_
  clear si
  refine st_gtr ?_
  refine st_if (fun h0 => ?_) (fun h0 => ?_) <;> simp only [za, zb, zc, zd, ze, zf, zg, zh, zi, u8i, zj, zk, zl] at h0
  · have hne : (readE frags).flatMap (szD (symF syms)) ≠ [] := by intro h; rw [h] at h0; simp at h0
    unfold asm_made_b3 asm_made_j2
    rw [if_pos hne] at kb
    exact kb hne _ _ _ _ _ _ _ _ _ _ _ _ s3
  have hn2 : (readE frags).flatMap (szD (symF syms)) = [] := by
    cases hd : (readE frags).flatMap (szD (symF syms)) with
    | nil => rfl
    | cons a b => rw [hd] at h0; simp at h0
  rw [hn2] at s3 kb kg
  rw [if_neg (by simp)] at kb kg
  have hsz : ∀ x ∈ l, SzOk (symF syms) x.2 := fun x hx => szD_ok (by
    rw [List.flatMap_eq_nil_iff] at hn2
    exact hn2 _ (by rw [← hel]; exact List.mem_map.2 ⟨x, hx, rfl⟩))
  show C fn_asm_source_places [.ptr i 0] h3 _
  refine places_sp hF hL (by omega) nd hf hwl hsz rfl s3 fun l4 jk kv4 dv4 ED4 h4 hm4 he4 hw4 nd4 hf4 s4 => ?_
  have hP : plFix (symF syms) l.length (l.map (·.2)) = madeP frags syms := by rw [hel, hlen]; rfl
  rw [hP] at he4 hf4 s4
  have hlen4 : l4.length = l.length := by simpa using congrArg List.length hm4
  refine st_add (by decide) (lx_next (lx_go ?_))
  refine st_lss (st_if (fun _ => ?_) (fun h => by cases h))
  refine st_ridx (h := h4) (sz := 1) (n := 4) (cs := [(.fn (.func fn_asm_source_twice) [.ptr i 0] []), (.fn (.func fn_asm_source_sized) [.ptr i 0] []), (.fn (.func fn_asm_source_places) [.ptr i 0] []), (.fn (.func fn_asm_source_check) [.ptr i 0] [])]) (Rd.full rfl) (j := 3) (by decide) fun p t => ?_
  refine st_pload1 t ?_
  clear t
  have si := St.startr s4.src
  refine st_nil (st_fa (st_load1 si (.head _) rfl ?_))
  refine st_rlen (s4.ad.rd s4.st) ?_
  clear si
  by_cases hbig : 4096 < (madeP frags syms).2.2
  · rw [if_pos hbig] at s4 kb ⊢
    refine st_gtr (st_if (fun _ => ?_) (fun h => by cases h))
    unfold asm_made_b3 asm_made_j2
    exact kb (by simp) _ _ _ _ _ _ _ _ _ _ _ _ s4
  rw [if_neg hbig] at s4 kb kg ⊢
  refine st_gtr (st_if (fun h => by cases h) (fun _ => ?_))
  show C fn_asm_source_check [.ptr i 0] h4 _
  refine check_sp hF hL (by omega) s4 rfl (.head _) nd4 hf4 (fun x hx => (hw4 x hx).1) fun dv5 ED5 h5 s5 => ?_
  rw [he4] at s5
  refine st_add (by decide) (lx_next (lx_go ?_))
  refine st_lss (st_if (fun h => by cases h) (fun _ => ?_))
  unfold asm_made_b3 asm_made_j2
  by_cases hch : (madeP frags syms).1.flatMap (chD (madeP frags syms).2.1 (madeP frags syms).1) = []
  · rw [hch] at s5
    exact kg hch _ _ _ _ _ _ _ _ _ _ _ _ he4 hw4 nd hf nd4 hf4 s5
  · exact kb hch _ _ _ _ _ _ _ _ _ _ _ _ s5
end
end
end
section
noncomputable section
section
variable [Tabs]
theorem wrong0 {f : Str → Option Int} {es : List En} {e : En} (h : chD f es e = []) : (valuesM e.place f e.x.2.args).2 = 0 ∧ (isCode e → e.place.tmod 2 = 0 ∧ (codeM (instOp e) (fullM e.place (flds (opKinds (instOp e))) (valuesM e.place f e.x.2.args).1)).isSome = true) := by
  unfold chD at h
  split at h
  · cases h
  rename_i hw
  simp only [ne_eq, Classical.not_not] at hw
  unfold wrongM at hw
  split at hw
  · cases hw
  rename_i h1
  split at hw
  · cases hw
  split at hw
  · rename_i h3; exact (h3 hw).elim
  rename_i h3
  simp only [ne_eq, Classical.not_not] at h3
  refine ⟨h3, fun hc => ?_⟩
  split at hw
  · cases hw
  rename_i h4
  refine ⟨?_, ?_⟩
  · by_cases h : e.place.tmod 2 = 0
    · exact h
    · exact (h1 ⟨hc, h⟩).elim
  · cases hcc : (codeM (instOp e) (fullM e.place (flds (opKinds (instOp e))) (valuesM e.place f e.x.2.args).1)).isSome with
    | true => rfl
    | false => exact (h4 ⟨hc, hcc⟩).elim
theorem encM_some {op : Nat} {vs : List Int} : (encM op vs).isSome = (codeM op vs).isSome := by unfold encM; cases codeM op vs <;> rfl
theorem encM_len {op : Nat} {vs bs : List Int} (h : encM op vs = some bs) : bs.length = opSize op := by
  unfold encM at h
  cases hc : codeM op vs with
  | none => rw [hc] at h; cases h
  | some b =>
    rw [hc] at h
    simp only [Option.map_some, Option.some.injEq] at h
    subst h
    unfold opSize
    split <;> simp [bytes4]
theorem bytes_len {f g : Str → Option Int} {es : List En} {e : En} (w : PlE e) (hs : SzOk g e) (h : chD f es e = []) : ((bytesM g f e).length : Int) = longM g e := by
  obtain ⟨hz, hc⟩ := wrong0 h
  have hlen := valuesM_len hz
  unfold bytesM
  split
  · rename_i hcode
    have := (hc hcode).2
    rw [← encM_some] at this
    cases hen : encM (instOp e) (fullM e.place (flds (opKinds (instOp e))) (valuesM e.place f e.x.2.args).1) with
    | none => rw [hen] at this; cases this
    | some bs =>
      rw [Option.getD_some, encM_len hen]
      unfold longM instOp
      rcases hcode with hk | hk
      · rw [if_pos hk, if_pos hk]
      · have hk1 : ¬ e.x.2.kind = 1 := by omega
        have ho := (w.wf.grow hk).1
        have hsz : ∀ n, n < 3 → opSize (greatOp n) = 4 ∧ opSize (shortOp n) = 2 := by decide
        simp only [if_neg hk1, if_pos hk]
        cases e.grown
        · simp only [Bool.false_eq_true, if_false]; rw [(hsz _ ho).2]; rfl
        · simp only [if_true]; rw [(hsz _ ho).1]; rfl
  · rename_i hcode
    split
    · rename_i hd
      have hfl : ∀ (n : Nat) (vs : List Int), (vs.flatMap (beB n)).length = vs.length * n := by
        intro n vs
        induction vs with
        | nil => simp
        | cons a l ih => rw [List.flatMap_cons, List.length_append, ih, beB_len, List.length_cons, Nat.add_mul]; omega
      rw [hfl, hlen]
      unfold longM
      unfold isCode at hcode
      unfold isData at hd
      rw [if_neg (by omega), if_neg (by omega), if_pos hd]
      push_cast; rfl
    · rename_i hd
      unfold isCode at hcode
      unfold isData at hd
      split
      · rename_i h6
        unfold longM
        rw [if_neg (by omega), if_neg (by omega), if_neg (by omega), if_pos h6]; simp
      · rw [List.length_replicate]
        have := (longM_in w.wf hs w.lo).1
        omega
def sumL (f : Str → Option Int) (es : List En) : Int := (es.map (longM f)).sum
theorem placeL_sum (f : Str → Option Int) : ∀ (es : List En) (st : List En × Int), st.2 = sumL f st.1 → (es.foldl (placeS f) st).2 = sumL f (es.foldl (placeS f) st).1
  | [], _, h => h
  | e :: es, st, h => by
    rw [List.foldl_cons]
    refine placeL_sum f es _ ?_
    simp only [placeS, sumL, List.map_append, List.sum_append, List.map_cons, List.map_nil, List.sum_cons, List.sum_nil] at h ⊢
    omega
theorem plFix_lay (f : Str → Option Int) : ∀ (n : Nat) (es : List En), ∃ es', plFix f n es = layM f es'
  | 0, es => ⟨es, rfl⟩
  | n + 1, es => by
    unfold plFix
    split
    · exact plFix_lay f n _
    · exact ⟨es, rfl⟩
theorem plFix_sum (f : Str → Option Int) (n : Nat) (es : List En) : (plFix f n es).2.2 = sumL f (plFix f n es).1 := by
  obtain ⟨es', h⟩ := plFix_lay f n es
  rw [h]
  exact placeL_sum f es' ([], 0) rfl
theorem sumL_take {f : Str → Option Int} {es : List En} (h : ∀ e ∈ es, 0 ≤ longM f e) (q : Nat) : sumL f (es.take q) ≤ sumL f es := by
  have hpos : ∀ l : List En, (∀ e ∈ l, 0 ≤ longM f e) → 0 ≤ sumL f l := by
    intro l
    induction l with
    | nil => intro _; simp [sumL]
    | cons a l ih =>
      intro hl
      have := ih fun e he => hl e (.tail _ he)
      have := hl a (.head _)
      simp only [sumL, List.map_cons, List.sum_cons] at *; omega
  conv => rhs; rw [← List.take_append_drop q es]
  have := hpos (es.drop q) fun e he => h e (List.mem_of_mem_drop he)
  simp only [sumL, List.map_append, List.sum_append] at *; omega
theorem flat_sum {f g : Str → Option Int} {es0 : List En} : ∀ (es : List En), (∀ e ∈ es, PlE e ∧ SzOk g e ∧ chD f es0 e = []) → ((es.flatMap (bytesM g f)).length : Int) = sumL g es
  | [], _ => by simp [sumL]
  | e :: es, h => by
    have ih := flat_sum es fun x hx => h x (.tail _ hx)
    obtain ⟨h1, h2, h3⟩ := h e (.head _)
    have := bytes_len h1 h2 h3
    simp only [List.flatMap_cons, List.length_append, sumL, List.map_cons, List.sum_cons] at *
    omega
variable {h0 h h' : AHeap} {M : List Nat} {Q : QT} {K : AV → Prop} {KS : AHeap → Prop}
theorem madeD_nil {frags : List Fg} {syms : List Sy} (h : madeD frags syms = []) : (madeP frags syms).2.2 ≤ 4096 ∧ ∀ e ∈ (madeP frags syms).1, chD (madeP frags syms).2.1 (madeP frags syms).1 e = [] := by
  unfold madeD at h
  split at h
  · rename_i h1; exact (h1 h).elim
  split at h
  · rename_i h1; exact (h1 h).elim
  split at h
  · rename_i h1; exact (h1 h).elim
  split at h
  · cases h
  rename_i h4
  rw [List.flatMap_eq_nil_iff] at h
  exact ⟨by omega, h⟩
theorem madeD_len (frags : List Fg) (syms : List Sy) (hw : Few frags syms) : (madeD frags syms).length < 2000000 := by
  have h1 := hw.bads
  have h2 := hw.ents
  have htw : ∀ (es : List En) (st : TwS) (b : Nat), TwB st b → TwB (es.foldl twE st) (b + 2 * es.length) := by
    intro es
    induction es with
    | nil => intro st b h; simpa using h
    | cons e es ih =>
      intro st b h
      rw [List.foldl_cons, List.length_cons]
      have hn : ∀ (nm : List Str) (st : TwS) (b : Nat), TwB st b → TwB (nm.foldl (twN e) st) (b + nm.length) := by
        intro nm
        induction nm with
        | nil => intro st b h; simpa using h
        | cons n nm ih2 =>
          intro st b h
          rw [List.foldl_cons, List.length_cons]
          have := ih2 _ _ (h.step e n)
          exact ⟨by have := this.1; omega, fun k => by have := this.2 k; omega⟩
      have hl : (namesOf e).length ≤ 2 := by unfold namesOf; split <;> simp
      have h3 := hn (namesOf e) st b h
      have h4 := ih (twE st e) (b + 2) ⟨by have := h3.1; unfold twE; omega, fun k => by have := h3.2 k; unfold twE; omega⟩
      exact ⟨by have := h4.1; omega, fun k => by have := h4.2 k; omega⟩
  have h5 := htw (readE frags) (tw0 (symF syms)) 0 ⟨by simp [tw0], fun k => by simp [tw0]; cases symF syms k <;> simp⟩
  have h6 := flatD_len (szD_len (symF syms)) (readE frags)
  have h7 := flatD_len (chD_len (madeP frags syms).2.1 (madeP frags syms).1) (madeP frags syms).1
  have h8 : (madeP frags syms).1.length = (readE frags).length := by
    unfold madeP
    have : ∀ (f : Str → Option Int) (n : Nat) (es : List En), (plFix f n es).1.length = es.length := by
      intro f n
      induction n with
      | zero => intro es; exact layM_len f es
      | succ n ih =>
        intro es
        unfold plFix
        split
        · rw [ih, List.length_map, layM_len]
        · exact layM_len f es
    exact this _ _ _
  unfold madeD
  split
  · omega
  split
  · have := h5.1; unfold twiceM; omega
  split
  · omega
  split
  · simp
  · omega
theorem assemble_sp (hF : FieldsOk) (hI : IndexOk) (hA : AtoiOk) (hL : LdexpOk) {frags : List Fg} {syms : List Sy} {fv sv : AV} (rf : Row frE 2 h fv frags) (rs : Row syE 2 h sv syms) (hw : Few frags syms)
    (kb : madeD frags syms ≠ [] → ∀ h', Fr [] h h' → Q (.tup [.full 0 [], .snap (madeD frags syms).length ((madeD frags syms).flatMap dE)]) h')
    (kg : madeD frags syms = [] → ∀ h', Fr [] h h' → Q (.tup [.snap (imageM frags syms).length ((imageM frags syms).flatMap bE), .full 0 []]) h') : C fn_asm_Assemble [fv, sv] h Q := by
  refine asm_Assemble_ok _ _ _ _ ?_
  unfold asm_Assemble
  refine made_sp hF hI hA hL rf rs hw (fun hne i js l lv dv kn sz kvs EL ED R h1 s1 => ?_) (fun hnil i js l lv dv jk kvk kvs EL ED R h1 hel hwl nds hfs ndk hfk s1 => ?_)
  · have si := St.startr s1.src
    refine st_nil (st_fa (st_load1 si (.head _) rfl ?_))
    have rd := s1.ad.rd s1.st
    refine st_rlen rd ?_
    refine st_gtr ?_
    have hlen : 0 < (madeD frags syms).length := List.length_pos_iff.2 hne
    refine st_if (fun _ => ?_) (fun h => by simp at h; exact (hne h).elim)
    refine st_nil (st_fa (st_load1 si (.head _) rfl ?_))
    have := madeD_len frags syms hw
    refine clone_api_Diag_sp (by omega) rd fun h2 f2 => ?_
    exact kb hne h2 (s1.call f2).st.fr
  · have si := St.startr s1.src
    refine st_nil (st_fa (st_load1 si (.head _) rfl ?_))
    refine st_rlen (s1.ad.rd s1.st) ?_
    refine st_gtr ?_
    refine st_if (fun h => by simp at h) (fun _ => ?_)
    refine st_nil (st_fa (st_load1 si (.head _) rfl ?_))
    clear si
    refine s1.row.len ?_
    obtain ⟨hsz, hch⟩ := madeD_nil hnil
    have hent : ∀ e ∈ (madeP frags syms).1, PlE e ∧ SzOk (symF syms) e ∧ chD (madeP frags syms).2.1 (madeP frags syms).1 e = [] := by
      intro e he
      have he2 := he
      rw [← hel, List.mem_map] at he2
      obtain ⟨x, hx, rfl⟩ := he2
      exact ⟨(hwl x hx).1, (hwl x hx).2, hch _ he⟩
    have hsum : (madeP frags syms).2.2 = sumL (symF syms) (madeP frags syms).1 := plFix_sum _ _ _
    have hlong : ∀ e ∈ (madeP frags syms).1, 0 ≤ longM (symF syms) e := fun e he => (longM_in (hent e he).1.wf (hent e he).2.1 (hent e he).1.lo).1
    have hll : l.length = (readE frags).length := by
      have h1 := congrArg List.length hel
      have h8 : ∀ (f : Str → Option Int) (n : Nat) (es : List En), (plFix f n es).1.length = es.length := by
        intro f n
        induction n with
        | zero => intro es; exact layM_len f es
        | succ n ih =>
          intro es
          unfold plFix
          split
          · rw [ih, List.length_map, layM_len]
          · exact layM_len f es
      rw [List.length_map] at h1
      rw [h1]; exact h8 _ _ _
    have hents := hw.ents
    have hpre : ∀ q, (((l.take q).map (·.2)).flatMap (bytesM (symF syms) (madeP frags syms).2.1)).length ≤ 4096 := by
      intro q
      rw [List.map_take, hel]
      have h1 := flat_sum (f := (madeP frags syms).2.1) (g := symF syms) (es0 := (madeP frags syms).1) ((madeP frags syms).1.take q) fun e he => hent e (List.mem_of_mem_take he)
      have h2 := sumL_take hlong q
      omega
    refine st_loop (fun n vs h' => ∃ (q : Nat) (v : AV) (E : Own), vs = [v, I (q : Nat)] ∧ n + q = l.length ∧ AccE 1 v (((l.take q).map (·.2)).flatMap (bytesM (symF syms) (madeP frags syms).2.1)).length ((((l.take q).map (·.2)).flatMap (bytesM (symF syms) (madeP frags syms).2.1)).flatMap bE) E ∧ SS h [] h' i js l [] lv dv (.map jk) (madeP frags syms).2.2 kvs EL ED (E ++ ((jk, true, mapO kvk) :: R))) l.length ⟨0, .full 0 [], [], rfl, by omega, .none 1, s1⟩ ?_
    rintro n vs h2 ⟨q, v, E, rfl, hn, a, s2⟩
    unfold asm_Assemble_l6
    (repeat refine st_lss ?_)
    refine st_if (fun hq => ?_) (fun hq => ?_) <;> simp only [za, zb, zc, zd, ze, zf, zg, zh, zi, u8i, zj, zk, zl] at hq
    · have hq : q < l.length := hq
      have hm := List.getElem_mem hq
      refine s2.row.idx (fun _ => rfl) hq fun p t => ?_
      refine st_pload1 t ?_
      have hme : l[q].2 ∈ (madeP frags syms).1 := by rw [← hel]; exact List.mem_map.2 ⟨_, hm, rfl⟩
      have hsucc := flat_take_succ (bytesM (symF syms) (madeP frags syms).2.1) hq
      have hq1 := hpre (q + 1)
      rw [hsucc, List.length_append] at hq1
      have hw0 := wrong0 (hent _ hme).2.2
      refine bytes_sp hF hL (s2.ent _ hm) (hwl _ hm).1 s2.src ⟨kvk, s2.rget (List.mem_append_right _ (.head _)), ndk, hfk⟩ ⟨kvs, s2.syms, nds, hfs⟩ (hwl _ hm).2 (fun hc => ⟨hw0.1, by rw [encM_some]; exact (hw0.2 hc).2⟩) fun u h3 f3 ru => ?_
      have s3 := s2.call f3
      refine a.app s3.backL (m := (bytesM (symF syms) (madeP frags syms).2.1 l[q].2).length) (xs := (bytesM (symF syms) (madeP frags syms).2.1 l[q].2).flatMap bE) ru (by
        have : ∀ l : List Int, (l.flatMap bE).all AV.one = true := fun l => by
          induction l with
          | nil => rfl
          | cons a l ih => rw [List.flatMap_cons, List.all_append, ih]; rfl
        exact this _) (by omega) fun v4 E4 h4 a4 s4 => ?_
      refine st_add (by omega) ?_
      refine ⟨n - 1, by omega, q + 1, v4, E4, rfl, by omega, ?_, SS.frontL s4 s3.unL⟩
      rw [hsucc, List.length_append, List.flatMap_append]; exact a4
    · have hq : q = l.length := by omega
      subst hq
      have h1 := hpre l.length
      rw [List.take_length] at a h1
      refine clone_byte_sp (by omega) (a.rd s2.backL) fun h3 f3 => ?_
      rw [hel]
      exact kg hnil h3 (s2.call f3).st.fr
end
end
end
section
noncomputable section
section
variable [Tabs]
variable {h0 h h' : AHeap} {M : List Nat} {Q : QT} {K : AV → Prop} {KS : AHeap → Prop}
end
end
end
section
noncomputable section
abbrev spNo : SpecB := fun _ _ _ _ _ => none
section
theorem fields_run [Tabs] : (kindsL.all fun p => runG Pg tb5 spNo 100 fn_strings_Fields [T p.1] .leaf 0 fun r t _ => chkR (.snap p.2.length (p.2.flatMap fun x => [T x])) r t) = true := by kernel_rfl
theorem ldexp_run [Tabs] : ([8, 15, 19, 24].all fun b : Nat => runG Pg tb5 spNo 100 fn_math_Ldexp [.lit (.float .f64 4607182418800017408), I (b : Nat)] .leaf 0 fun r t _ => chkR (.lit (.float .f64 (FloatKind.f64.nearest (2 ^ b : Nat)))) r t) = true := by kernel_rfl
def digs : List UInt8 := [48, 49, 50, 51, 52, 53, 54, 55, 56, 57]
def twoDigs : List Str := (digs.map fun a => [a]) ++ digs.flatMap fun a => digs.map fun b => [a, b]
theorem atoi_run [Tabs] : (twoDigs.all fun s => runG Pg tb5 spNo 100 fn_strconv_Atoi [T s] .leaf 0 fun r t _ => chkR (.tup [I (s.foldl (fun n c => n * 10 + (c.toNat - 48)) 0 : Nat), .lit .nilIface]) r t) = true := by kernel_rfl
theorem mem_digs {c : UInt8} (h : bDigit c = true) : c ∈ digs := by
  unfold bDigit pDigit at h
  simp only [Bool.and_eq_true, decide_eq_true_eq] at h
  have : ∀ n, 48 ≤ n → n ≤ 57 → UInt8.ofNat n ∈ digs := by
    intro n h1 h2
    have : n = 48 ∨ n = 49 ∨ n = 50 ∨ n = 51 ∨ n = 52 ∨ n = 53 ∨ n = 54 ∨ n = 55 ∨ n = 56 ∨ n = 57 := by omega
    rcases this with h | h | h | h | h | h | h | h | h | h <;> subst h <;> decide
  have h3 := this c.toNat h.1 h.2
  rwa [UInt8.ofNat_toNat] at h3
theorem mem_two {s : Str} (h1 : 1 ≤ s.length) (h2 : s.length ≤ 2) (h : s.all bDigit = true) : s ∈ twoDigs := by
  match s with
  | [] => simp at h1
  | [a] =>
    simp only [List.all_cons, List.all_nil, Bool.and_true] at h
    exact List.mem_append_left _ (List.mem_map.2 ⟨a, mem_digs h, rfl⟩)
  | [a, b] =>
    simp only [List.all_cons, List.all_nil, Bool.and_true, Bool.and_eq_true] at h
    exact List.mem_append_right _ (List.mem_flatMap.2 ⟨a, mem_digs h.1, List.mem_map.2 ⟨b, mem_digs h.2, rfl⟩⟩)
  | a :: b :: c :: r => simp at h2
variable [Tabs5]
theorem fieldsOk : FieldsOk := fun p hp h Q q => closed_call Tabs5.tb spNone_ok (d := 100) (.snap p.2.length (p.2.flatMap fun x => [T x])) rfl (by
  have : ∀ l : List Str, clL (l.flatMap fun x => [T x]) = true := fun l => by
    induction l with
    | nil => rfl
    | cons a l ih => show (cl (T a) && clL (l.flatMap fun x => [T x])) = true; rw [ih]; rfl
  exact this _) (List.all_eq_true.1 fields_run p hp) q
theorem ldexpOk : LdexpOk := fun b hb h Q q => closed_call Tabs5.tb spNone_ok (d := 100) (.lit (.float .f64 (FloatKind.f64.nearest (2 ^ b : Nat)))) rfl rfl (List.all_eq_true.1 ldexp_run b hb) q
theorem atoiOk : AtoiOk := fun s h1 h2 h3 h Q q => closed_call Tabs5.tb spNone_ok (d := 100) _ rfl rfl (List.all_eq_true.1 atoi_run s (mem_two h1 h2 h3)) q
theorem indexOk : IndexOk := fun s sub h Q hs q => by
  have hI := indexIs
  refine ⟨hI.1, fun G w vs si r => ?_⟩
  obtain ⟨x, y, hx, ha, hb⟩ := r.two
  simp only [Rep] at ha hb
  obtain ⟨rfl, _⟩ := ha
  obtain ⟨rfl, _⟩ := hb
  obtain ⟨m, hm⟩ := Tabs5.m0 _ si.tab
  subst hx
  refine (hI.2 ⟨⟨s⟩⟩ ⟨⟨sub⟩⟩ m w hs (si.frz _ _ _ hm)).mono fun e w' ⟨he, hw⟩ => ?_
  subst hw
  exact ⟨I (Lib.index s sub), _, h, G, he, by simp [Rep, Value.oneCell'], q, si, Evo.refl _ _ _⟩
end
end
end
end Go.Proofs.YtiddcelpooenfaaGreatDoor.AL
