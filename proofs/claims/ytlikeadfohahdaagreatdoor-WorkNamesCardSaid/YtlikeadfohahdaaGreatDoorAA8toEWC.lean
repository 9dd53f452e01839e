import Derived.Test.YtlikeadfohahdaaGreatDoorAI4toAA7
import Derived.Test.YtlikeadfohahdaaGreatDoorAL32toAL34
set_option linter.all false
set_option autoImplicit true
set_option relaxedAutoImplicit true
set_option maxRecDepth 100000
namespace Go.Proofs.YtlikeadfohahdaaGreatDoor.AL
section
noncomputable section
def upd (f : Str → Option Int) (k : Str) (v : Int) : Str → Option Int := fun x => if x = k then some v else f x
structure FillInv (g : Int → Int) (kvs : KV) (sn : List Nat) (kv : KV) : Prop where
  nd : (keysA kv).Nodup
  snd : sn.Nodup
  lt : ∀ q ∈ sn, q < kvs.length
  at_ : ∀ k, lookA k kv = if ∃ q ∈ sn, (keysA kvs)[q]? = some k then (lookA k kvs).map g else none
theorem FillInv.start {g : Int → Int} {kvs : KV} : FillInv g kvs [] [] := ⟨by simp [keysA], by simp, by simp, by simp [lookA]⟩
theorem FillInv.step {g : Int → Int} {kvs kv : KV} {sn : List Nat} (I : FillInv g kvs sn kv) (nd : (keysA kvs).Nodup) {q : Nat} (hq : q < kvs.length) (hn : q ∉ sn) : FillInv g kvs (sn ++ [q]) (putA kvs[q].1 (g kvs[q].2) kv) where
  nd := putA_nodup I.nd
  snd := by
    rw [List.nodup_append]
    exact ⟨I.snd, by simp, fun a ha b hb e => by simp at hb; subst hb; subst e; exact hn ha⟩
  lt := by
    intro x hx
    simp only [List.mem_append, List.mem_singleton] at hx
    rcases hx with hx | rfl
    · exact I.lt x hx
    · exact hq
  at_ := by
    intro k
    rw [lookA_putA]
    have hkq : (keysA kvs)[q]? = some kvs[q].1 := by simp [keysA, hq]
    by_cases hk : k = kvs[q].1
    · subst hk
      rw [if_pos rfl, if_pos ⟨q, by simp, hkq⟩]
      have hl : lookA kvs[q].1 kvs = some kvs[q].2 := (lookA_mem nd).2 (List.getElem_mem hq)
      rw [hl]; rfl
    · rw [if_neg hk, I.at_ k]
      have : (∃ x ∈ sn ++ [q], (keysA kvs)[x]? = some k) ↔ ∃ x ∈ sn, (keysA kvs)[x]? = some k := by
        constructor
        · rintro ⟨x, hx, he⟩
          simp only [List.mem_append, List.mem_singleton] at hx
          rcases hx with hx | rfl
          · exact ⟨x, hx, he⟩
          · rw [hkq] at he; exact (hk (Option.some.inj he).symm).elim
        · rintro ⟨x, hx, he⟩
          exact ⟨x, by simp [hx], he⟩
      simp only [this]
theorem FillInv.done {g : Int → Int} {kvs kv : KV} {sn : List Nat} (I : FillInv g kvs sn kv) (hall : ∀ q, q < kvs.length → q ∈ sn) (k : Str) : lookA k kv = (lookA k kvs).map g := by
  rw [I.at_ k]
  split
  · rfl
  · rename_i hn
    have : lookA k kvs = none := by
      rw [lookA_none]
      intro hk
      obtain ⟨q, hq, e⟩ := List.getElem_of_mem hk
      exact hn ⟨q, hall q (by simpa [keysA] using hq), by rw [List.getElem?_eq_getElem hq, e]⟩
    rw [this]; rfl
theorem FillInv.less {g : Int → Int} {kvs kv : KV} {sn : List Nat} (I : FillInv g kvs sn kv) {q : Nat} (hq : q < kvs.length) (hn : q ∉ sn) : sn.length < kvs.length := by
  have hnd : (sn ++ [q]).Nodup := by
    rw [List.nodup_append]
    exact ⟨I.snd, by simp, fun a ha b hb e => by simp at hb; subst hb; subst e; exact hn ha⟩
  have := hnd.length_le_of_subset (l₂ := List.range kvs.length) (fun x hx => List.mem_range.2 (by
    simp only [List.mem_append, List.mem_singleton] at hx
    rcases hx with hx | rfl
    · exact I.lt x hx
    · exact hq))
  simp at this; omega
abbrev TwS := (Str → Option Int) × List Dg
def twN (e : En) (st : TwS) (n : Str) : TwS :=
  if n = [] then st else (upd st.1 n ((st.1 n).getD 0 + 1), if 0 < (st.1 n).getD 0 then st.2 ++ [(e.frag, e.x.1, 2)] else st.2)
def TwB (st : TwS) (b : Nat) : Prop := st.2.length ≤ b ∧ ∀ k, 0 ≤ (st.1 k).getD 0 ∧ (st.1 k).getD 0 ≤ 1 + b
theorem TwB.step {st : TwS} {b : Nat} (h : TwB st b) (e : En) (n : Str) : TwB (twN e st n) (b + 1) := by
  unfold twN
  split
  · exact ⟨by have := h.1; omega, fun k => by have := h.2 k; omega⟩
  · refine ⟨?_, fun k => ?_⟩
    · have := h.1
      simp only
      split
      · simp; omega
      · omega
    · have := h.2 k
      have := h.2 n
      simp only [upd]
      split
      · simp; omega
      · omega
section
variable [Tabs]
variable {h0 h h' : AHeap} {M : List Nat} {Q : QT} {K : AV → Prop}
variable {i js : Nat} {l : List (Nat × En)} {ds : List Dg} {lv dv kn : AV} {sz : Int} {kvs : KV} {EL ED R : Own}
theorem SS.memR {e : Nat × Bool × AObj} (h : e ∈ R) : e ∈ (ED ++ ((i, true, srcC lv js kn dv sz) :: (js, true, mapO kvs) :: (EL ++ (entsO l ++ R)))) :=
  List.mem_append_right _ (.tail _ (.tail _ (List.mem_append_right _ (List.mem_append_right _ h))))
theorem SS.back {e : Nat × Bool × AObj} (s : SS h0 M h i js l ds lv dv kn sz kvs EL ED (e :: R)) : St h0 M h (e :: (ED ++ ((i, true, srcC lv js kn dv sz) :: (js, true, mapO kvs) :: (EL ++ (entsO l ++ R))))) := s.st.perm (by
  have hx : ∀ R : Own, (ED ++ ((i, true, srcC lv js kn dv sz) :: (js, true, mapO kvs) :: (EL ++ (entsO l ++ R)))) = (ED ++ ((i, true, srcC lv js kn dv sz) :: (js, true, mapO kvs) :: (EL ++ entsO l))) ++ R := fun R => by simp
  rw [hx R, hx (e :: R)]
  exact List.perm_middle)
end
end
end
section
noncomputable section
section
variable [Tabs]
def enAt (e : En) (a : Int) : En := ⟨e.frag, e.x, a, e.grown⟩
end
section
variable [Tabs]
variable {h0 h h' : AHeap} {M : List Nat} {Q : QT} {K : AV → Prop}
variable {i js : Nat} {l : List (Nat × En)} {ds : List Dg} {lv dv kn : AV} {sz : Int} {kvs : KV} {EL ED R : Own}
end
end
end
section
noncomputable section
section
variable [Tabs]
variable {h0 h h' : AHeap} {M : List Nat} {Q : QT} {K : AV → Prop}
variable {i js : Nat} {l : List (Nat × En)} {ds : List Dg} {lv dv kn : AV} {sz : Int} {kvs : KV} {EL ED R : Own}
theorem SzOk.place {f : Str → Option Int} {e : En} (h : SzOk f e) (at_ : Int) : SzOk f (enAt e at_) := h
end
end
end
section
noncomputable section
section
variable [Tabs]
end
section
variable [Tabs]
variable {h0 h h' : AHeap} {M : List Nat} {Q : QT} {K : AV → Prop}
variable {i js : Nat} {l : List (Nat × En)} {ds : List Dg} {lv dv kn : AV} {sz : Int} {kvs : KV} {EL ED R : Own}
end
end
end
section
noncomputable section
section
variable [Tabs]
variable {h0 h h' : AHeap} {M : List Nat} {Q : QT} {K : AV → Prop}
variable {i js : Nat} {l : List (Nat × En)} {ds : List Dg} {lv dv kn : AV} {sz : Int} {kvs : KV} {EL ED R : Own}
end
end
end
section
noncomputable section
abbrev Fg := Str × Str
def frE (x : Fg) : List AV := [T x.1, T x.2]
section
variable [Tabs]
variable {h0 h h' : AHeap} {M : List Nat} {Q : QT} {K : AV → Prop} {KS : AHeap → Prop}
variable {i js : Nat} {l : List (Nat × En)} {ds : List Dg} {lv dv kn : AV} {sz : Int} {kvs : KV} {EL ED R : Own}
theorem SS.subK {kvs' : KV} : Sub (ED ++ ((i, true, srcC lv js kn dv sz) :: (js, true, mapO kvs) :: (EL ++ (entsO l ++ R)))) (js, true, mapO kvs) (ED ++ ((i, true, srcC lv js kn dv sz) :: (js, true, mapO kvs') :: (EL ++ (entsO l ++ R)))) (js, true, mapO kvs') := Sub.pre (.tail .head) _
end
end
end
section
noncomputable section
section
variable [Tabs]
variable {h0 h : AHeap} {M : List Nat} {L R R' : Own} {K : AV → Prop} {KH : QT} {KS' : AHeap → Prop} {Q : QT} {i js : Nat} {kvs : KV} {kn : AV} {sz : Int}
def ParseE : Prop := ∀ (h : AHeap) (Q : QT), Q (.tup [.full 0 [], .full 0 []]) h → C fn_line_Parse [T []] h Q
abbrev S0 (h0 h : AHeap) (i js : Nat) (kn : AV) (kvs : KV) (R : Own) : Prop := SS h0 [] h i js [] [] (.full 0 []) (.full 0 []) kn 0 kvs [] [] R
theorem readE_sp (hP : ParseE) {frags : List Fg} {syms : List Sy} {fv sv : AV} (rf : Row frE 2 h fv frags) (rs : Row syE 2 h sv syms) (hfl : frags.length < 1000000) (hsl : syms.length < 1000000) (hn0 : ∀ x ∈ frags, x.2 = [])
    (k : ∀ i js kvs h', (keysA kvs).Nodup → S0 h h' i js (.lit (.map none)) kvs [] → Q (.ptr i 0) h') : C fn_asm_read [fv, sv] h Q := by
  refine asm_read_ok _ _ _ _ ?_
  unfold asm_read
  refine st_makeMap (St.start h) fun js h1 s1 => ?_
  refine st_build rfl ?_
  refine st_box s1 rfl fun i h2 s2 => ?_
  have s2 : S0 h h2 i js (.lit (.map none)) [] [] := ⟨.none 1, .none 3, s2⟩
  refine rs.len ?_
  refine st_loop (fun n vs h' => ∃ (q : Nat) (kvs : KV), vs = [I (q : Nat)] ∧ n + q = syms.length ∧ (keysA kvs).Nodup ∧ S0 h h' i js (.lit (.map none)) kvs []) syms.length ⟨0, [], rfl, by omega, by simp [keysA], s2⟩ ?_
  rintro n vs h3 ⟨q, kvs, rfl, hn, nd, s3⟩
  unfold asm_read_l21
  (repeat refine st_lss ?_)
  refine st_if (fun hq => ?_) (fun hq => ?_) <;> simp only [za, zb, zc, zd, ze, zf, zg, zh, zi, u8i, zj, zk, zl] at hq
  · have hq : q < syms.length := hq
    refine (rs.fr s3.st.fr).idx (fun _ => rfl) hq fun p t => ?_
    refine st_ploadAll t rfl ?_
    refine st_new s3.st fun t7 h4 s4 => ?_
    have s4 := s3.front s4
    refine st_store (L' := [] ++ ((i, true, srcC (.full 0 []) js (.lit (.map none)) (.full 0 []) 0) :: (js, true, mapO kvs) :: ([] ++ (entsO [] ++ ((t7, true, .cells (syE syms[q])) :: []))))) (cs := [T [], I 0]) s4.st (SS.subR .head) rfl rfl rfl (nle rfl) fun h5 s5 => ?_
    have s5 : S0 h h5 i js (.lit (.map none)) kvs [(t7, true, .cells (syE syms[q]))] := ⟨.none 1, .none 3, s5⟩
    have si := St.startr s5.src
    refine st_nil (st_fa (st_load1 si (.head _) rfl (st_fa (st_load1 s5.st (SS.memR (.head _)) rfl (st_fa (st_load1 s5.st (SS.memR (.head _)) rfl ?_))))))
    refine st_mapUpd s5.st SS.subK fun h6 s6 => ?_
    refine st_add (by omega) ?_
    have s6 : S0 h h6 i js (.lit (.map none)) (putA syms[q].1 syms[q].2 kvs) [(t7, true, .cells (syE syms[q]))] := ⟨.none 1, .none 3, s6⟩
    exact ⟨n - 1, by omega, q + 1, _, rfl, by omega, putA_nodup nd, s6.unR (List.nil_sublist _)⟩
  · refine (rf.fr s3.st.fr).len ?_
    refine st_loop (fun n vs h' => ∃ (q : Nat), vs = [I (q : Nat)] ∧ n + q = frags.length ∧ S0 h h' i js (.lit (.map none)) kvs []) frags.length ⟨0, rfl, by omega, s3⟩ ?_
    rintro n vs h4 ⟨q, rfl, hn, s4⟩
    unfold asm_read_l20
    (repeat refine st_lss ?_)
    refine st_if (fun hq => ?_) (fun hq => ?_) <;> simp only [za, zb, zc, zd, ze, zf, zg, zh, zi, u8i, zj, zk, zl] at hq
    · have hq : q < frags.length := hq
      refine (rf.fr s4.st.fr).idx (fun _ => rfl) hq fun p t => ?_
      refine st_ploadAll t rfl ?_
      have hz := hn0 _ (List.getElem_mem hq)
      generalize frags[q] = fr at hz ⊢
      refine st_new s4.st fun t9 h5 s5 => ?_
      have s5 := s4.front s5
      refine st_store (L' := [] ++ ((i, true, srcC (.full 0 []) js (.lit (.map none)) (.full 0 []) 0) :: (js, true, mapO kvs) :: ([] ++ (entsO [] ++ ((t9, true, .cells (frE fr)) :: []))))) (cs := [T [], T []]) s5.st (SS.subR .head) rfl rfl rfl (nle rfl) fun h6 s6 => ?_
      have s6 : S0 h h6 i js (.lit (.map none)) kvs [(t9, true, .cells (frE fr))] := ⟨s4.al, s4.ad, s6⟩
      refine st_fa (st_load1 s6.st (SS.memR (.head _)) rfl ?_)
      rw [hz]
      refine hP _ _ ?_
      refine st_ext rfl (st_ext rfl ?_)
      (repeat refine st_lenL2 ?_)
      refine st_loopX 2 (lx_go ?_)
      unfold asm_read_l19
      (repeat (first | refine st_lenL2 ?_ | refine st_lss ?_))
      try (refine st_if (fun h => absurd h (by decide)) (fun _ => ?_))
      skip
      refine st_loopX 2 (lx_go ?_)
      unfold asm_read_l18
      (repeat (first | refine st_lss ?_ | refine st_add (by omega) ?_))
      try (refine st_if (fun h => absurd h (by decide)) (fun _ => ?_))
      try (refine st_add (by omega) ?_)
      exact ⟨n - 1, by omega, q + 1, rfl, by omega, s6.unR (List.nil_sublist _)⟩
    · exact k _ _ _ _ nd s4
theorem twiceE_sp (s : S0 h0 h i js kn kvs R) (nd : (keysA kvs).Nodup) (k : ∀ h', S0 h0 h' i js kn kvs R → Q (.tup []) h') : C fn_asm_source_twice [.ptr i 0] h Q := by
  refine asm_source_twice_ok _ _ _ ?_
  unfold asm_source_twice
  refine st_makeMap s.st fun jm h1 s1 => ?_
  have s1 := s.front s1
  have si := St.startr s1.src
  (repeat (first | refine st_nil ?_ | refine st_fa ?_ | refine st_load1 ‹_› (.head _) rfl ?_))
  clear si
  refine st_rangeM s1.st s1.syms fun it h2 s2 => ?_
  have s2 := s1.front s2
  refine st_loop (fun n vs h' => ∃ (sn : List Nat) (kv : KV), vs = [] ∧ n + sn.length = kvs.length ∧ FillInv (fun _ => 1) kvs sn kv ∧ S0 h0 h' i js kn kvs ((it, true, iterO js kvs sn) :: (jm, true, mapO kv) :: R)) kvs.length ⟨[], [], rfl, by simp, .start, s2⟩ ?_
  rintro n vs h3 ⟨sn, kv, rfl, hn, fi, s3⟩
  unfold asm_source_twice_l16
  refine st_nextM s3.back s3.syms (fun hall => ?_) (fun q hq hnq h4 s4 => ?_)
  · refine st_ext rfl (st_if (fun h => by cases h) (fun _ => ?_))
    have si := St.startr s3.src
    (repeat (first | refine st_nil ?_ | refine st_fa ?_ | refine st_lenL2 ?_ | refine st_load1 ‹_› (.head _) rfl ?_))
    clear si
    refine st_loopX 2 (lx_go ?_)
    unfold asm_source_twice_l15
    (repeat refine st_lss ?_)
    try (refine st_if (fun h => absurd h (by decide)) (fun _ => ?_))
    exact k _ (s3.unR ((List.sublist_cons_self _ _).trans (List.sublist_cons_self _ _)))
  · have s4 := (s3.unR (List.sublist_cons_self _ _)).front s4
    refine st_ext rfl (st_if (fun _ => ?_) (fun h => by cases h))
    refine st_entryM s4.st (b := true) (i := it) (SS.memR (.head _)) s4.syms hq ?_
    refine st_ext rfl ?_
    refine st_mapUpd s4.st (SS.subR (.tail .head)) fun h6 s6 => ?_
    have hlt := fi.less hq hnq
    exact ⟨n - 1, by omega, sn ++ [q], _, rfl, by simp; omega, fi.step nd hq hnq, ⟨s4.al, s4.ad, s6⟩⟩
theorem sizedE_sp (s : S0 h0 h i js kn kvs R) (k : Q (.tup []) h) : C fn_asm_source_sized [.ptr i 0] h Q := by
  refine asm_source_sized_ok _ _ _ ?_
  unfold asm_source_sized
  have si := St.startr s.src
  (repeat (first | refine st_nil ?_ | refine st_fa ?_ | refine st_lenL2 ?_ | refine st_load1 ‹_› (.head _) rfl ?_))
  refine st_loopX 2 (lx_go ?_)
  unfold asm_source_sized_l35
  (repeat refine st_lss ?_)
  try (refine st_if (fun h => absurd h (by decide)) (fun _ => ?_))
  exact k
theorem checkE_sp (s : S0 h0 h i js kn kvs R) (k : Q (.tup []) h) : C fn_asm_source_check [.ptr i 0] h Q := by
  refine asm_source_check_ok _ _ _ ?_
  unfold asm_source_check
  have si := St.startr s.src
  (repeat (first | refine st_nil ?_ | refine st_fa ?_ | refine st_lenL2 ?_ | refine st_load1 ‹_› (.head _) rfl ?_))
  refine st_loopX 2 (lx_go ?_)
  unfold asm_source_check_l5
  (repeat refine st_lss ?_)
  try (refine st_if (fun h => absurd h (by decide)) (fun _ => ?_))
  exact k
theorem growE_sp (s : S0 h0 h i js kn kvs R) (k : Q (B false) h) : C fn_asm_source_grow [.ptr i 0] h Q := by
  refine asm_source_grow_ok _ _ _ ?_
  unfold asm_source_grow
  have si := St.startr s.src
  (repeat (first | refine st_nil ?_ | refine st_fa ?_ | refine st_lenL2 ?_ | refine st_load1 ‹_› (.head _) rfl ?_))
  refine st_loopX 2 (lx_go ?_)
  unfold asm_source_grow_l11
  (repeat (first | refine st_lenL2 ?_ | refine st_lss ?_))
  try (refine st_if (fun h => absurd h (by decide)) (fun _ => ?_))
  skip
  refine st_loopX 2 (lx_go ?_)
  unfold asm_source_grow_l10
  (repeat (first | refine st_lenL2 ?_ | refine st_lss ?_ | refine st_gtr ?_))
  try (refine st_if (fun h => absurd h (by decide)) (fun _ => ?_))
  skip
  exact k
theorem layE_sp (s : S0 h0 h i js kn kvs R) (nd : (keysA kvs).Nodup) (k : ∀ jk kv' h', S0 h0 h' i js (.map jk) kvs ((jk, true, mapO kv') :: R) → Q (.tup []) h') : C fn_asm_source_lay [.ptr i 0] h Q := by
  refine asm_source_lay_ok _ _ _ ?_
  unfold asm_source_lay
  refine st_makeMap s.st fun jk h1 s1 => ?_
  have s1 := s.front s1
  refine st_nil (st_fa ?_)
  refine st_store (L' := [] ++ ((i, true, srcC (.full 0 []) js (.map jk) (.full 0 []) 0) :: (js, true, mapO kvs) :: ([] ++ (entsO [] ++ ((jk, true, .amap [] 0) :: R))))) (cs := [.full 0 [], .map js, kn, .full 0 [], I 0]) s1.st SS.subS rfl rfl rfl (nle rfl) fun h2 s2 => ?_
  have s2 : S0 h0 h2 i js (.map jk) kvs ((jk, true, mapO []) :: R) := ⟨s.al, s.ad, s2⟩
  have si := St.startr s2.src
  (repeat (first | refine st_nil ?_ | refine st_fa ?_ | refine st_load1 ‹_› (.head _) rfl ?_))
  clear si
  refine st_rangeM s2.st s2.syms fun it h3 s3 => ?_
  have s3 := s2.front s3
  refine st_loop (fun n vs h' => ∃ (sn : List Nat) (kv : KV), vs = [] ∧ n + sn.length = kvs.length ∧ FillInv (fun v => v) kvs sn kv ∧ S0 h0 h' i js (.map jk) kvs ((it, true, iterO js kvs sn) :: (jk, true, mapO kv) :: R)) kvs.length ⟨[], [], rfl, by simp, .start, s3⟩ ?_
  rintro n vs h4 ⟨sn, kv, rfl, hn, fi, s4⟩
  unfold asm_source_lay_l23
  refine st_nextM s4.back s4.syms (fun hall => ?_) (fun q hq hnq h5 s5 => ?_)
  · refine st_ext rfl (st_if (fun h => by cases h) (fun _ => ?_))
    have s5 := s4.unR (List.sublist_cons_self _ _)
    have si := St.startr s5.src
    (repeat (first | refine st_nil ?_ | refine st_fa ?_ | refine st_lenL2 ?_ | refine st_load1 ‹_› (.head _) rfl ?_))
    clear si
    refine st_loopX 2 (lx_go ?_)
    unfold asm_source_lay_l22
    (repeat (first | refine st_nil ?_ | refine st_fa ?_ | refine st_lss ?_))
    try (refine st_if (fun h => absurd h (by decide)) (fun _ => ?_))
    try (refine st_nil (st_fa ?_))
    refine st_store (L' := [] ++ ((i, true, srcC (.full 0 []) js (.map jk) (.full 0 []) 0) :: (js, true, mapO kvs) :: ([] ++ (entsO [] ++ ((jk, true, mapO kv) :: R))))) (cs := [.full 0 [], .map js, .map jk, .full 0 [], I 0]) s5.st SS.subS rfl rfl rfl (nle rfl) fun h6 s6 => ?_
    have s6 : S0 h0 h6 i js (.map jk) kvs ((jk, true, mapO kv) :: R) := ⟨s5.al, s5.ad, s6⟩
    have si := St.startr s6.src
    refine st_loopX 3 (lx_go ?_)
    unfold asm_source_lay_l21
    (repeat (first | refine st_nil ?_ | refine st_fa ?_ | refine st_lenL2 ?_ | refine st_load1 ‹_› (.head _) rfl ?_))
    try (refine st_if (fun _ => ?_) (fun h => absurd h (by decide)))
    skip
    refine st_loopX 2 (lx_go ?_)
    unfold asm_source_lay_l20
    (repeat refine st_lss ?_)
    try (refine st_if (fun h => absurd h (by decide)) (fun _ => ?_))
    refine lx_next (lx_go ?_)
    skip
    try (refine st_if (fun h => absurd h (by decide)) (fun _ => ?_))
    exact k _ _ _ s6
  · have s5 := (s4.unR (List.sublist_cons_self _ _)).front s5
    refine st_ext rfl (st_if (fun _ => ?_) (fun h => by cases h))
    refine st_entryM s5.st (b := true) (i := it) (SS.memR (.head _)) s5.syms hq ?_
    have si := St.startr s5.src
    (repeat (first | refine st_nil ?_ | refine st_fa ?_ | refine st_ext rfl ?_ | refine st_load1 ‹_› (.head _) rfl ?_))
    clear si
    refine st_mapUpd s5.st (SS.subR (.tail .head)) fun h6 s6 => ?_
    have hlt := fi.less hq hnq
    exact ⟨n - 1, by omega, sn ++ [q], _, rfl, by simp; omega, fi.step nd hq hnq, ⟨s5.al, s5.ad, s6⟩⟩
theorem placesE_sp (s : S0 h0 h i js kn kvs R) (nd : (keysA kvs).Nodup) (k : ∀ jk kv' h', S0 h0 h' i js (.map jk) kvs ((jk, true, mapO kv') :: R) → Q (.tup []) h') : C fn_asm_source_places [.ptr i 0] h Q := by
  refine asm_source_places_ok _ _ _ ?_
  unfold asm_source_places
  refine layE_sp s nd fun jk kv' h1 s1 => ?_
  refine st_loopX 2 (lx_go ?_)
  unfold asm_source_places_l5
  refine growE_sp s1 ?_
  refine st_if (fun h => by cases h) (fun _ => ?_)
  have si := St.startr s1.src
  (repeat (first | refine st_nil ?_ | refine st_fa ?_ | refine st_gtr ?_ | refine st_load1 ‹_› (.head _) rfl ?_))
  try (refine st_if (fun h => absurd h (by decide)) (fun _ => ?_))
  exact k _ _ _ s1
end
end
end
section
noncomputable section
section
variable [Tabs]
variable {h0 h : AHeap} {M : List Nat} {L R R' : Own} {K : AV → Prop} {KH : QT} {KS' : AHeap → Prop} {Q : QT} {i js : Nat} {kvs : KV} {kn : AV} {sz : Int}
theorem madeE_sp (hP : ParseE) {frags : List Fg} {syms : List Sy} {fv sv : AV} (rf : Row frE 2 h fv frags) (rs : Row syE 2 h sv syms) (hfl : frags.length < 1000000) (hsl : syms.length < 1000000) (hn0 : ∀ x ∈ frags, x.2 = [])
    (k : ∀ i js kn kvs R h', S0 h h' i js kn kvs R → Q (.ptr i 0) h') : C fn_asm_made [fv, sv] h Q := by
  refine asm_made_ok _ _ _ _ ?_
  unfold asm_made
  refine readE_sp hP rf rs hfl hsl hn0 fun i js kvs h1 nd s1 => ?_
  refine st_buildS rfl rfl ?_
  refine st_lenL2 ?_
  refine st_loopX 10 (lx_go ?_)
  unfold asm_made_l5
  have rd : ∀ h, Rd h 1 (.full 4 ([AV.fn (.func fn_asm_source_twice) [.ptr i 0] [], (.fn (.func fn_asm_source_sized) [.ptr i 0] []), (.fn (.func fn_asm_source_places) [.ptr i 0] []), (.fn (.func fn_asm_source_check) [.ptr i 0] [])])) 4 [(.fn (.func fn_asm_source_twice) [.ptr i 0] []), (.fn (.func fn_asm_source_sized) [.ptr i 0] []), (.fn (.func fn_asm_source_places) [.ptr i 0] []), (.fn (.func fn_asm_source_check) [.ptr i 0] [])] := fun h => Rd.full rfl
  refine st_lss (st_if (fun _ => ?_) (fun h => by cases h))
  refine st_ridx (rd h1) (j := 0) (by decide) fun p t => ?_
  refine st_pload1 t ?_
  clear t
  have si := St.startr s1.src
  refine st_nil (st_fa (st_load1 si (.head _) rfl (st_lenL2 (st_gtr (st_if (fun h => by cases h) (fun _ => ?_))))))
  clear si
  show C fn_asm_source_twice [.ptr i 0] h1 _
  refine twiceE_sp s1 nd fun h2 s2 => ?_
  refine st_add (by decide) (lx_next (lx_go ?_))
  refine st_lss (st_if (fun _ => ?_) (fun h => by cases h))
  refine st_ridx (rd h2) (j := 1) (by decide) fun p t => ?_
  refine st_pload1 t ?_
  clear t
  have si := St.startr s2.src
  refine st_nil (st_fa (st_load1 si (.head _) rfl (st_lenL2 (st_gtr (st_if (fun h => by cases h) (fun _ => ?_))))))
  clear si
  show C fn_asm_source_sized [.ptr i 0] h2 _
  refine sizedE_sp s2 ?_
  refine st_add (by decide) (lx_next (lx_go ?_))
  refine st_lss (st_if (fun _ => ?_) (fun h => by cases h))
  refine st_ridx (rd h2) (j := 2) (by decide) fun p t => ?_
  refine st_pload1 t ?_
  clear t
  have si := St.startr s2.src
  refine st_nil (st_fa (st_load1 si (.head _) rfl (st_lenL2 (st_gtr (st_if (fun h => by cases h) (fun _ => ?_))))))
  clear si
  show C fn_asm_source_places [.ptr i 0] h2 _
  refine placesE_sp s2 nd fun jk kv' h3 s3 => ?_
  refine st_add (by decide) (lx_next (lx_go ?_))
  refine st_lss (st_if (fun _ => ?_) (fun h => by cases h))
  refine st_ridx (rd h3) (j := 3) (by decide) fun p t => ?_
  refine st_pload1 t ?_
  clear t
  have si := St.startr s3.src
  refine st_nil (st_fa (st_load1 si (.head _) rfl (st_lenL2 (st_gtr (st_if (fun h => by cases h) (fun _ => ?_))))))
  clear si
  show C fn_asm_source_check [.ptr i 0] h3 _
  refine checkE_sp s3 ?_
  refine st_add (by decide) (lx_next (lx_go ?_))
  refine st_lss (st_if (fun h => by cases h) (fun _ => ?_))
  unfold asm_made_b3 asm_made_j2
  exact k _ _ _ _ _ _ s3
theorem assembleE_sp (hP : ParseE) {frags : List Fg} {syms : List Sy} {fv sv : AV} (rf : Row frE 2 h fv frags) (rs : Row syE 2 h sv syms) (hfl : frags.length < 1000000) (hsl : syms.length < 1000000) (hn0 : ∀ x ∈ frags, x.2 = [])
    (k : ∀ h', Fr [] h h' → Q (.tup [.snap 0 [], .full 0 []]) h') : C fn_asm_Assemble [fv, sv] h Q := by
  refine asm_Assemble_ok _ _ _ _ ?_
  unfold asm_Assemble
  refine madeE_sp hP rf rs hfl hsl hn0 fun i js kn kvs R h1 s1 => ?_
  have si := St.startr s1.src
  refine st_nil (st_fa (st_load1 si (.head _) rfl (st_lenL2 (st_gtr (st_if (fun h => by cases h) (fun _ => ?_))))))
  refine st_nil (st_fa (st_load1 si (.head _) rfl (st_lenL2 ?_)))
  refine st_loopX 2 (lx_go ?_)
  unfold asm_Assemble_l6
  refine st_lss (st_if (fun h => by cases h) (fun _ => ?_))
  refine clone_byte_sp (n := 0) (cs := []) (by decide) (Rd.full rfl) fun h2 f2 => ?_
  exact k _ (s1.st.call f2).fr
end
end
end
section
noncomputable section
section
variable [Tabs]
variable {h0 h : AHeap} {M : List Nat} {L R : Own} {K : AV → Prop} {Q : QT}
theorem st_ixI {l : List Int} {n j : Nat} {cs : List AV} (hn : n = l.length) (hc : cs = l.map fun x => I x) (hj : j < l.length) (k : ∀ r, K (.cptr (I l[j] :: r))) : qIndexAddr 1 (.full n cs) (I (j : Nat)) K := ⟨by
  subst hn hc
  simp only [pIndexAddr, asI, Int.toNat_natCast, Nat.mul_one]
  refine ⟨⟨by omega, by omega⟩, ?_⟩
  rw [List.drop_eq_getElem_cons (by simpa using hj), List.getElem_map]
  exact k _⟩
theorem st_cload {a : AV} {l : List AV} (k : K a) : qLoad1 (.cptr (a :: l)) h K := st_pload1 (l := []) (.inr ⟨_, rfl, by simp, by simp⟩) k
end
end
end
section
noncomputable section
section
variable [Tabs]
variable {h0 h : AHeap} {M : List Nat} {L R : Own} {K : AV → Prop} {Q : QT} {i : Nat} {w : WkM}
theorem rightM_word {c : Int} {n : Str} {t : Str} {v : Int} (hc : 1 ≤ c ∧ c ≤ 6) (hn : isWord n = true) (ht : t.length ≤ 600) (hw : t = [] ∨ writesM c = true) (hv : v = 0 ∨ (c = 5 ∧ -1099511627776 ≤ v ∧ v ≤ 1099511627776)) : rightM ⟨c, n, t, v⟩ = true := by
  unfold rightM
  rw [if_neg (by simp; omega), if_neg (by simp; omega)]
  simp only [Bool.and_eq_true, Bool.or_eq_true, decide_eq_true_eq]
  refine ⟨hn, ht, hw, ?_, ?_⟩
  · rcases hv with rfl | h <;> omega
  · rcases hv with rfl | h
    · exact .inl rfl
    · exact .inr h.1
end
end
end
section
noncomputable section
section
variable [Tabs]
variable {h0 h : AHeap} {M : List Nat} {L R : Own} {K : AV → Prop} {Q : QT}
theorem make_b {i6 i4 : Nat} {r z : Rq} (s : St h0 M h [(i6, true, .cells (rqL r)), (i4, true, .cells (rqL z))]) (k : ∀ h', Fr M h0 h' → Q (rqE r) h') : law9_Make_b12 (.ptr i6 0) (.ptr i4 0) h Q := by
  unfold law9_Make_b12 law9_Make_j11
  refine st_loadA s (.head _) (nle rfl) ?_
  refine st_store s (.tail .head) rfl rfl rfl (nle rfl) fun h s => ?_
  refine st_loadA s (.tail _ (.head _)) (nle rfl) ?_
  exact k _ s.fr
theorem make_sp {n : Int} (hn : 0 ≤ n) (hn2 : n ≤ 1152921504606846976) (k : ∀ r h', Fr [] h h' → (rightM r = true ∧ r.name.length ≤ 4 ∧ r.text = []) → Q (rqE r) h') : C fn_law9_Make [I n, .full 0 []] h Q := by
  refine law9_Make_ok _ _ _ _ ?_
  unfold law9_Make
  refine st_new (St.start h) fun i4 h s => ?_
  have hq : 0 ≤ n.tdiv 16 ∧ n.tdiv 16 ≤ n := by
    rw [Int.tdiv_eq_ediv_of_nonneg hn]; constructor <;> omega
  refine st_quo (by decide) (by omega) ?_
  refine law9_Name_sp (by omega) ?_
  obtain ⟨hw, hl⟩ := name9_word (n.tdiv 16)
  generalize name9 (n.tdiv 16) = nm at hw hl ⊢
  refine st_build rfl ?_
  refine st_new s fun i6 h s => ?_
  refine st_store s .head rfl rfl rfl (nle rfl) fun h s => ?_
  (repeat (first | refine st_lenL2 ?_ | refine st_gtr ?_))
  unfold law9_Make_j23
  refine law9_within_sp (by decide) (by decide) (by omega) ?_
  have wd : ∀ c : Int, 1 ≤ c → c ≤ 6 → rightM ⟨c, nm, [], 0⟩ = true ∧ nm.length ≤ 4 ∧ ([] : Str) = [] := fun c h1 h6 => ⟨rightM_word ⟨h1, h6⟩ hw (by simp) (.inl rfl) (.inl rfl), hl, rfl⟩
  (repeat refine st_lss ?_)
  refine st_if (fun b1 => ?_) (fun b1 => ?_) <;> simp only [za, zb, zc, zd, ze, zf, zg, zh, zi, u8i, zj, zk, zl] at b1
  · (refine st_fa ?_; refine st_store s .head rfl rfl rfl (nle rfl) fun h s => ?_)
    (refine st_fa ?_; refine st_store s .head rfl rfl rfl (nle rfl) fun h s => ?_)
    (refine make_b (r := ⟨_, _, _, _⟩) (z := ⟨0, [], [], 0⟩) s fun h f => ?_; refine k _ _ f ?_)
    exact wd 1 (by decide) (by decide)
  · (repeat refine st_lss ?_)
    refine st_if (fun b2 => ?_) (fun b2 => ?_) <;> simp only [za, zb, zc, zd, ze, zf, zg, zh, zi, u8i, zj, zk, zl] at b2
    · (refine st_fa ?_; refine st_store s .head rfl rfl rfl (nle rfl) fun h s => ?_)
      (refine make_b (r := ⟨_, _, _, _⟩) (z := ⟨0, [], [], 0⟩) s fun h f => ?_; refine k _ _ f ?_)
      exact wd 2 (by decide) (by decide)
    · (repeat refine st_lss ?_)
      refine st_if (fun b3 => ?_) (fun b3 => ?_) <;> simp only [za, zb, zc, zd, ze, zf, zg, zh, zi, u8i, zj, zk, zl] at b3
      · (refine st_fa ?_; refine st_store s .head rfl rfl rfl (nle rfl) fun h s => ?_)
        (refine st_fa ?_; refine st_store s .head rfl rfl rfl (nle rfl) fun h s => ?_)
        (refine make_b (r := ⟨_, _, _, _⟩) (z := ⟨0, [], [], 0⟩) s fun h f => ?_; refine k _ _ f ?_)
        exact wd 3 (by decide) (by decide)
      · (repeat refine st_lss ?_)
        refine st_if (fun b4 => ?_) (fun b4 => ?_) <;> simp only [za, zb, zc, zd, ze, zf, zg, zh, zi, u8i, zj, zk, zl] at b4
        · (refine st_fa ?_; refine st_store s .head rfl rfl rfl (nle rfl) fun h s => ?_)
          (refine make_b (r := ⟨_, _, _, _⟩) (z := ⟨0, [], [], 0⟩) s fun h f => ?_; refine k _ _ f ?_)
          exact wd 4 (by decide) (by decide)
        · (repeat refine st_lss ?_)
          refine st_if (fun b5 => ?_) (fun b5 => ?_) <;> simp only [za, zb, zc, zd, ze, zf, zg, zh, zi, u8i, zj, zk, zl] at b5
          · refine st_buildS rfl rfl ?_
            have hq2 : 0 ≤ (n.tdiv 16).tdiv 12 ∧ (n.tdiv 16).tdiv 12 ≤ n := by
              rw [Int.tdiv_eq_ediv_of_nonneg hq.1]; constructor <;> omega
            refine st_quo (by decide) (by omega) ?_
            refine st_fa ?_
            refine law9_within_sp (by decide) (by decide) (by omega) ?_
            have hv : ∃ j : Nat, (n.tdiv 16).tdiv 12 % 7 = (j : Int) ∧ j < 7 := ⟨((n.tdiv 16).tdiv 12 % 7).toNat, by omega, by omega⟩
            obtain ⟨j, hj, hj7⟩ := hv
            rw [hj]
            have hall : ∀ x ∈ [0, 1, 7, 300, -1, 1099511627776, -1099511627776], -1099511627776 ≤ x ∧ x ≤ (1099511627776 : Int) := by decide
            refine st_ixI (l := [0, 1, 7, 300, -1, 1099511627776, -1099511627776]) rfl rfl hj7 fun rr => ?_
            have hx := hall _ (List.getElem_mem hj7)
            generalize ([0, 1, 7, 300, -1, 1099511627776, -1099511627776] : List Int)[j] = x at hx ⊢
            refine st_cload ?_
            refine st_store s .head rfl rfl rfl (nle rfl) fun h s => ?_
            refine ⟨st_cload rfl, ?_⟩
            (refine st_fa ?_; refine st_store s .head rfl rfl rfl (nle rfl) fun h s => ?_)
            (refine make_b (r := ⟨_, _, _, _⟩) (z := ⟨0, [], [], 0⟩) s fun h f => ?_; refine k _ _ f ?_)
            exact ⟨rightM_word ⟨by decide, by decide⟩ hw (by simp) (.inl rfl) (.inr ⟨rfl, hx⟩), hl, rfl⟩
          · (repeat refine st_lss ?_)
            refine st_if (fun b6 => ?_) (fun b6 => ?_) <;> simp only [za, zb, zc, zd, ze, zf, zg, zh, zi, u8i, zj, zk, zl] at b6
            · (refine st_fa ?_; refine st_store s .head rfl rfl rfl (nle rfl) fun h s => ?_)
              (refine make_b (r := ⟨_, _, _, _⟩) (z := ⟨0, [], [], 0⟩) s fun h f => ?_; refine k _ _ f ?_)
              exact wd 6 (by decide) (by decide)
            · (refine st_fa ?_; refine st_store s .head rfl rfl rfl (nle rfl) fun h s => ?_)
              (refine st_fa ?_; refine st_store s .head rfl rfl rfl (nle rfl) fun h s => ?_)
              (refine make_b (r := ⟨_, _, _, _⟩) (z := ⟨0, [], [], 0⟩) s fun h f => ?_; refine k _ _ f ?_)
              exact ⟨by decide, by simp, rfl⟩
end
end
end
section
noncomputable section
theorem isWord_le {s : Str} (h : isWord s = true) : s.length ≤ 12 := by
  unfold isWord at h
  split at h
  · cases h
  · simp only [Bool.and_eq_true, decide_eq_true_eq] at h; exact h.1
def NoTxt (w : WkM) : Prop := ∀ x ∈ w.f, x.2 = []
theorem rightM7 {r : Rq} (h : rightM r = true) (h7 : r.kind = 7) : r.name = [] ∧ r.text = [] ∧ r.value = 0 := by
  unfold rightM at h
  rw [if_neg (by omega), if_pos h7] at h
  exact of_decide_eq_true h
theorem NoTxt.doW {w : WkM} (o : NoTxt w) (so : WkSo w) {r : Rq} (ht : r.text = []) : NoTxt (doW w r).1 := by
  have hi : NoTxt ⟨insK r.name r.text w.f, w.s⟩ := fun x hx => by
    rcases (insK_mem so.f x).1 hx with rfl | ⟨h, _⟩
    · exact ht
    · exact o x h
  have hd : NoTxt ⟨delK r.name w.f, w.s⟩ := fun x hx => o x ((delK_mem x).1 hx).1
  unfold AL.doW deedW
  split
  · exact o
  split
  · unfold putW; split
    · exact o
    · exact hi
  split
  · unfold delW; split
    · exact o
    · exact hd
  split
  · unfold moreW; split
    · exact o
    · rename_i old hl
      split
      · exact o
      · rw [ht, List.append_nil]
        have ho : old = [] := o _ ((lookK_mem so.f.nd).1 hl)
        rw [ho]
        rw [ht] at hi
        exact hi
  split
  · unfold showW; split <;> exact o
  split
  · unfold defW; split
    · exact o
    · exact o
  · unfold undefW; split
    · exact o
    · exact o
section
variable [Tabs]
variable {h0 h : AHeap} {M : List Nat} {L R R' : Own} {K : AV → Prop} {KH : QT} {KS' : AHeap → Prop} {Q : QT} {i : Nat} {w : WkM}
theorem wBuildE_sp (hP : ParseE) (hks : KSOk) {r : Rq} (ok : WkOk w) (nt : NoTxt w) (s : WkS h0 M h i w R) (k : ∀ h', WkS h0 M h' i w R → Q (.agg [I 0, T [], .snap 0 [], .full 0 []]) h') : C fn_work_Work_build [.ptr i 0, rqE r] h Q := by
  refine work_Work_build_ok _ _ _ _ ?_
  unfold work_Work_build
  obtain ⟨jf, js, xf, xs, mf, ms, s⟩ := s
  refine st_box s rfl fun p h1 s1 => ?_
  refine st_new s1 fun q h2 s2 => ?_
  have s2 : WkS h0 M h2 i w ((q, true, .cells [I 0, S ⟨#[]⟩, .full 0 [], .full 0 []]) :: (p, true, .cells (rqE r).cells) :: R) := ⟨jf, js, xf, xs, mf, ms, s2.perm (by
      refine (List.perm_append_comm (l₁ := [(q, true, AObj.cells [I 0, S ⟨#[]⟩, .full 0 [], .full 0 []]), (p, true, .cells (AV.cells (rqE r)))]) (l₂ := [(i, true, AObj.cells [AV.map jf, AV.map js]), (jf, true, xf), (js, true, xs)])).append_right R)⟩
  refine wFrags_sp hks (Nat.le_trans ok.fn (by decide)) (fun x hx => Nat.le_trans (isWord_le (ok.fw x hx)) (by decide)) s2 fun h3 s3 => ?_
  refine wSyms_sp hks (Nat.le_trans ok.sn (by decide)) (fun x hx => Nat.le_trans (isWord_le (ok.sw x hx)) (by decide)) s3 fun h4 s4 => ?_
  refine assembleE_sp hP (frags := w.f) (syms := w.s) (Row.snap (enc := frE) (fun _ => rfl) _) (Row.snap (enc := syE) (fun _ => rfl) _) (by have := ok.fn; omega) (by have := ok.sn; omega) nt fun h5 f5 => ?_
  have s5 := s4.after f5
  refine st_ext rfl (st_ext rfl (st_lenL2 (st_gtr (st_if (fun h => by cases h) (fun _ => ?_)))))
  refine st_build rfl ?_
  refine ws_store (o := 0) s5 .head rfl rfl rfl (nle rfl) fun h6 s6 => ?_
  refine ws_loadA s6 (.head _) (nle rfl) ?_
  refine k _ ?_
  obtain ⟨jf, js, xf, xs, mf, ms, s6⟩ := s6
  exact ⟨jf, js, xf, xs, mf, ms, s6.sub (by exact (((List.sublist_cons_self _ _).trans (List.sublist_cons_self _ _)).cons_cons _).cons_cons _ |>.cons_cons _)⟩
theorem wDoB_sp (hP : ParseE) (hks : KSOk) {r : Rq} (hr : rightM r = true) (h7 : r.kind = 7) (ok : WkOk w) (nt : NoTxt w) (s : WkS h0 M h i w R) (k : ∀ h', WkS h0 M h' i w R → Q (.agg [I 0, T [], .snap 0 [], .full 0 []]) h') : C fn_work_Work_Do [.ptr i 0, rqE r] h Q := by
  refine work_Work_Do_ok _ _ _ _ ?_
  unfold work_Work_Do
  obtain ⟨jf, js, xf, xs, mf, ms, s⟩ := s
  refine st_box s rfl fun p h1 s1 => ?_
  refine st_new s1 fun q h2 s2 => ?_
  refine st_loadA s2 (.tail _ (.head _)) (nle rfl) ?_
  refine wRight_sp r (by rw [(rightM7 hr h7).1]; decide) fun h3 f3 => ?_
  have s3 := s2.after f3
  rw [hr]
  refine st_not (st_if (fun h => by cases h) (fun _ => ?_))
  refine st_fa (st_load1 s3 (.tail _ (.head _)) rfl ?_)
  refine st_loadA s3 (.tail _ (.head _)) (nle rfl) ?_
  show C fn_work_deed [I r.kind] h3 _
  rw [h7]
  refine wDeed_sp (n := 6) (by decide) fun a ha => ?_
  refine ⟨st_loadA s3 (.tail _ (.head _)) (nle rfl) rfl, ?_⟩
  cases ha
  have s4 : WkS h0 M h3 i w ((q, true, .cells [I 0, S ⟨#[]⟩, .full 0 [], .full 0 []]) :: (p, true, .cells (AV.cells (rqE r))) :: R) := ⟨jf, js, xf, xs, mf, ms, s3.perm (by
      refine (List.perm_append_comm (l₁ := [(q, true, AObj.cells [I 0, S ⟨#[]⟩, .full 0 [], .full 0 []]), (p, true, .cells (AV.cells (rqE r)))]) (l₂ := [(i, true, AObj.cells [AV.map jf, AV.map js]), (jf, true, xf), (js, true, xs)])).append_right R)⟩
  refine wBuildE_sp hP hks ok nt s4 fun h5 s5 => ?_
  refine ws_store (o := 0) s5 .head rfl rfl rfl (nle rfl) fun h6 s6 => ?_
  refine ws_loadA s6 (.head _) (nle rfl) ?_
  refine k _ ?_
  obtain ⟨jf, js, xf, xs, mf, ms, s6⟩ := s6
  exact ⟨jf, js, xf, xs, mf, ms, s6.sub (by exact (((List.sublist_cons_self _ _).trans (List.sublist_cons_self _ _)).cons_cons _).cons_cons _ |>.cons_cons _)⟩
structure WkE (w : WkM) : Prop where
  ok : WkOk w
  so : WkSo w
  nt : NoTxt w
theorem WkE.nil : WkE ⟨[], []⟩ := ⟨.nil, .nil, fun x hx => by cases hx⟩
def doE (w : WkM) (r : Rq) : WkM := if r.kind = 7 then w else (doW w r).1
def toldE (w : WkM) (r : Rq) : AV := if r.kind = 7 then .agg [I 0, T [], .snap 0 [], .full 0 []] else reE (doW w r).2.1 (doW w r).2.2
theorem WkE.doE (o : WkE w) {r : Rq} (ht : r.text = []) : WkE (doE w r) := by
  unfold AL.doE
  split
  · exact o
  · rename_i h7
    exact ⟨o.ok.doW o.so h7, o.so.doW r, o.nt.doW o.so ht⟩
theorem wDoE_sp (hP : ParseE) (hks : KSOk) {r : Rq} (hr : rightM r = true) (hn : r.name.length ≤ 1000) (o : WkE w) (s : WkS h0 M h i w R) (k : ∀ h', WkS h0 M h' i (doE w r) R → Q (toldE w r) h') : C fn_work_Work_Do [.ptr i 0, rqE r] h Q := by
  by_cases h7 : r.kind = 7
  · unfold doE toldE at k
    rw [if_pos h7, if_pos h7] at k
    exact wDoB_sp hP hks hr h7 o.ok o.nt s k
  · unfold doE toldE at k
    rw [if_neg h7, if_neg h7] at k
    exact wDo_sp o.ok (by omega) h7 s s.so.f k
end
end
end
section
noncomputable section
abbrev inE1 : Int → List AV := fun x => [I x]
theorem bytesLess_lt : ∀ a b : List UInt8, Op.bytesLess a b = decide (a < b)
  | [], [] => rfl
  | a :: x, [] => rfl
  | [], b :: y => rfl
  | a :: x, b :: y => by
    simp only [Op.bytesLess, bytesLess_lt x y]
    rw [Bool.eq_iff_iff]
    simp [List.cons_lt_cons_iff]
section
variable [Tabs]
variable {h0 h : AHeap} {M : List Nat} {L R R' : Own} {K : AV → Prop} {KH : QT} {KS' : AHeap → Prop} {Q : QT} {i : Nat} {w : WkM}
theorem so_adj {α : Type} {l : KL α} (s : SoK l) {j : Nat} (hj : j + 1 < l.length) : (l[j]'(by omega)).1 < (l[j + 1]).1 := by
  have := List.pairwise_iff_getElem.1 s j (j + 1) (by omega) hj (by omega)
  exact this
theorem wnames_law (hk : Known9) (hP : ParseE) (hks : KSOk) {ns : List Int} (hi : ∀ x ∈ ns, -9223372036854775808 ≤ x ∧ x ≤ 9223372036854775807) (k : ∀ h', Q (B true) h') :
    C fn_law9_WorkNames [.snap ns.length (ns.flatMap inE1)] h Q := by
  refine law9_WorkNames_ok _ _ _ ?_
  unfold law9_WorkNames
  refine hk _ _ ?_
  (repeat refine st_not ?_)
  refine wNew_sp (St.start h) fun i h s => ?_
  refine st_ptrNo (st_if (fun h => by cases h) (fun _ => ?_))
  refine st_loop (fun n vs h' => ∃ (w : WkM) (j : Nat), vs = [B false, I (j : Nat)] ∧ n + j = 40 ∧ WkE w ∧ WkS _ [] h' i w []) 40 ⟨⟨[], []⟩, 0, rfl, rfl, .nil, s⟩ ?_
  rintro n vs h1 ⟨w, j, rfl, hn, o, s⟩
  unfold law9_WorkNames_l12
  (repeat (first | refine st_lenL1 ?_ | refine st_lss ?_))
  refine st_if (fun b1 => ?_) (fun b1 => ?_) <;> simp only [za, zb, zc, zd, ze, zf, zg, zh, zi, u8i, zj, zk, zl] at b1
  · (repeat refine st_lss ?_)
    refine st_if (fun b2 => ?_) (fun b2 => ?_) <;> simp only [za, zb, zc, zd, ze, zf, zg, zh, zi, u8i, zj, zk, zl] at b2
    · have hp : j < ns.length := by omega
      refine (Row.snap (h := h1) (enc := inE1) (sz := 1) (fun _ => rfl) ns).idx (fun _ => rfl) hp fun pp t => ?_
      refine st_pload1 t ?_
      refine law9_within_sp (by decide) (by decide) (hi _ (List.getElem_mem hp)) ?_
      refine make_sp (by omega) (by omega) fun r h2 f2 ⟨hr, hl, ht⟩ => ?_
      have s2 := s.after f2
      refine wDoE_sp hP hks hr (by omega) o s2 fun h3 s3 => ?_
      have o2 := o.doE (r := r) ht
      generalize doE w r = w2 at s3 o2 ⊢
      refine wFrags_sp hks (Nat.le_trans o2.ok.fn (by decide)) (fun x hx => Nat.le_trans (isWord_le (o2.ok.fw x hx)) (by decide)) s3 fun h4 s4 => ?_
      refine wSyms_sp hks (Nat.le_trans o2.ok.sn (by decide)) (fun x hx => Nat.le_trans (isWord_le (o2.ok.sw x hx)) (by decide)) s4 fun h5 s5 => ?_
      have hfn := o2.ok.fn
      have hsn := o2.ok.sn
      refine st_loop (fun m vs h' => ∃ q : Nat, vs = [B false, I (q : Nat)] ∧ 1 ≤ q ∧ q ≤ 20 ∧ m + q = 20 ∧ WkS _ [] h' i w2 []) 19 ⟨1, rfl, by omega, by omega, rfl, s5⟩ ?_
      rintro m vs h6 ⟨q, rfl, hq1, hq2, hm, s6⟩
      unfold law9_WorkNames_l11
      (repeat (first | refine st_lenL1 ?_ | refine st_lss ?_))
      refine st_if (fun b3 => ?_) (fun b3 => ?_) <;> simp only [za, zb, zc, zd, ze, zf, zg, zh, zi, u8i, zj, zk, zl] at b3
      · have hql : q < w2.f.length := by omega
        refine st_sub (by omega) ?_
        rw [show ((q : Nat) : Int) - 1 = ((q - 1 : Nat) : Int) by omega]
        refine (Row.snap (h := h6) (enc := frE) (sz := 2) (fun _ => rfl) w2.f).idx (fun _ => rfl) (j := q - 1) (by omega) fun pp t => ?_
        refine st_pfa t (Nat.zero_le _) fun pp t => st_pload1 t ?_
        refine (Row.snap (h := h6) (enc := frE) (sz := 2) (fun _ => rfl) w2.f).idx (fun _ => rfl) hql fun pp t => ?_
        refine st_pfa t (Nat.zero_le _) fun pp t => st_pload1 t ?_
        refine st_sge ?_
        have hlt := so_adj o2.so.f (j := q - 1) (by omega)
        have e : w2.f[q - 1 + 1]'(by omega) = w2.f[q] := by congr 1; omega
        rw [e] at hlt
        rw [bytesLess_lt, decide_eq_true hlt]
        refine st_if (fun h => by cases h) (fun _ => ?_)
        refine st_add (by omega) ?_
        exact ⟨m - 1, by omega, q + 1, rfl, by omega, by omega, by omega, s6⟩
      · refine st_loop (fun m vs h' => ∃ q : Nat, vs = [B false, I (q : Nat)] ∧ 1 ≤ q ∧ q ≤ 20 ∧ m + q = 20 ∧ WkS _ [] h' i w2 []) 19 ⟨1, rfl, by omega, by omega, rfl, s6⟩ ?_
        rintro m vs h7 ⟨q, rfl, hq1, hq2, hm, s7⟩
        unfold law9_WorkNames_l10
        (repeat (first | refine st_lenL1 ?_ | refine st_lss ?_))
        refine st_if (fun b4 => ?_) (fun b4 => ?_) <;> simp only [za, zb, zc, zd, ze, zf, zg, zh, zi, u8i, zj, zk, zl] at b4
        · have hql : q < w2.s.length := by omega
          refine st_sub (by omega) ?_
          rw [show ((q : Nat) : Int) - 1 = ((q - 1 : Nat) : Int) by omega]
          refine (Row.snap (h := h7) (enc := syE) (sz := 2) (fun _ => rfl) w2.s).idx (fun _ => rfl) (j := q - 1) (by omega) fun pp t => ?_
          refine st_pfa t (Nat.zero_le _) fun pp t => st_pload1 t ?_
          refine (Row.snap (h := h7) (enc := syE) (sz := 2) (fun _ => rfl) w2.s).idx (fun _ => rfl) hql fun pp t => ?_
          refine st_pfa t (Nat.zero_le _) fun pp t => st_pload1 t ?_
          refine st_sge ?_
          have hlt := so_adj o2.so.s (j := q - 1) (by omega)
          have e : w2.s[q - 1 + 1]'(by omega) = w2.s[q] := by congr 1; omega
          rw [e] at hlt
          rw [bytesLess_lt, decide_eq_true hlt]
          refine st_if (fun h => by cases h) (fun _ => ?_)
          refine st_add (by omega) ?_
          exact ⟨m - 1, by omega, q + 1, rfl, by omega, by omega, by omega, s7⟩
        · (repeat (first | refine st_lenL1 ?_ | refine st_gtr ?_))
          refine st_if (fun h => by exfalso; simp at h; omega) (fun _ => ?_)
          (repeat (first | refine st_lenL1 ?_ | refine st_gtr ?_))
          refine st_if (fun h => by exfalso; simp at h; omega) (fun _ => ?_)
          refine st_add (by omega) ?_
          exact ⟨n - 1, by omega, w2, j + 1, rfl, by omega, o2, s7⟩
    · exact k _
  · exact k _
end
end
end
section
noncomputable section
theorem parse_run [Tabs] : runG Pg tb5 spK 100 fn_line_Parse [T []] .leaf 0 (fun r t _ => chkR (.tup [.full 0 [], .full 0 []]) r t) = true := by kernel_rfl
variable [Tabs5]
theorem prsE : ParseE := fun h Q q => closed_call Tabs5.tb spK_ok (d := 100) (.tup [.full 0 [], .full 0 []]) rfl rfl parse_run q
theorem wnames_card_law {ns : List Int} (z : ns.length ≤ maxLen) (w : ∀ x ∈ ns, (Lit.int .i64 x).wf = true) {h : AHeap} {Q : QT} (k : ∀ h', Q (B true) h') : C fn_law9_WorkNames [.snap ns.length (ns.map fun n => .lit (.int .i64 n))] h Q := by
  have e : ∀ ns : List Int, (ns.map fun n => AV.lit (.int .i64 n)) = ns.flatMap inE1 := fun ns => by
    induction ns with
    | nil => rfl
    | cons a l ih => simp [inE1, ih]
  rw [e]
  exact wnames_law known9 prsE ksOk (fun x hx => by have := w x hx; simp only [Lit.wf, Bool.and_eq_true, decide_eq_true_eq] at this; exact this) k
end
end
end Go.Proofs.YtlikeadfohahdaaGreatDoor.AL
