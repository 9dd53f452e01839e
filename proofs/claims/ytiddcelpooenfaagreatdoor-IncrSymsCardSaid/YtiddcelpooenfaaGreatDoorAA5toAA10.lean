import Derived.Test.YtiddcelpooenfaaGreatDoorAN5toAA4
set_option linter.all false
set_option autoImplicit true
set_option relaxedAutoImplicit true
set_option maxRecDepth 100000
namespace Go.Proofs.YtiddcelpooenfaaGreatDoor.AL
section
noncomputable section
section
variable [Tabs]
variable {h : AHeap} {Q : QT} {K : AV → Prop}
theorem argV_in {here : Int} {f : Str → Option Int} {a : Ar} (hr : a.reg < 1000) : -1099511627776 ≤ (argV here f a).1 ∧ (argV here f a).1 ≤ 1099511627776 := by
  unfold argV
  split
  · exact evalF_in _ _ _
  · simp; omega
theorem valuesM_in {here : Int} {f : Str → Option Int} {args : List Ar} (hr : ∀ a ∈ args, a.reg < 1000) : ∀ v ∈ (valuesM here f args).1, -1099511627776 ≤ v ∧ v ≤ 1099511627776 := by
  unfold valuesM
  split
  · simp
  · intro v hv
    simp only [List.mem_map] at hv
    obtain ⟨a, ha, rfl⟩ := hv
    exact argV_in (hr a ha)
theorem valuesM_len {here : Int} {f : Str → Option Int} {args : List Ar} (hz : (valuesM here f args).2 = 0) : (valuesM here f args).1.length = args.length := by
  unfold valuesM at hz ⊢
  split
  · rename_i a ha
    rw [ha] at hz
    have := List.find?_some ha
    simp at this
    exact (this hz).elim
  · simp
theorem valuesM_le {here : Int} {f : Str → Option Int} {args : List Ar} : (valuesM here f args).1.length ≤ args.length := by
  unfold valuesM
  split <;> simp
theorem fullM_in {place : Int} {ks : List Str} {vs : List Int} (hp : 0 ≤ place ∧ place ≤ 1000000000000000) (hv : ∀ v ∈ vs, -1099511627776 ≤ v ∧ v ≤ 1099511627776) : ∀ v ∈ fullM place ks vs, Small v := by
  intro v hm
  unfold fullM at hm
  obtain ⟨j, hj, rfl⟩ := List.getElem_of_mem hm
  simp only [List.length_zipWith] at hj
  rw [List.getElem_zipWith]
  have := hv _ (List.getElem_mem (show j < vs.length by omega))
  unfold fullK Small
  split <;> omega
structure PlE (e : En) : Prop where
  wf : WfS e.x.2
  lo : 0 ≤ e.place
  hi : e.place ≤ 1000000000000000
theorem wrCode_sp (hF : FieldsOk) (hL : LdexpOk) {e : En} {p : Nat} (hp : h[p]? = some (.cells (enE e))) (w : PlE e) (hk : isCode e) {f : Str → Option Int} (hz : (valuesM e.place f e.x.2.args).2 = 0) {fv : AV} (r : Row iE 1 h fv (valuesM e.place f e.x.2.args).1)
    (k : ∀ h', Fr [] h h' → Q (I (if (codeM (instOp e) (fullM e.place (flds (opKinds (instOp e))) (valuesM e.place f e.x.2.args).1)).isSome = false then 6 else 0)) h') : wrCode (.ptr p 0) fv h Q := by
  unfold wrCode
  have hin := valuesM_in (here := e.place) (f := f) fun a ha => (w.wf.arg a ha).2.2
  have hlen := valuesM_len hz
  have hal := w.wf.args
  generalize (valuesM e.place f e.x.2.args).1 = vs at r k hin hlen ⊢
  have hlo := w.lo
  have hhi := w.hi
  obtain ⟨ho, hkl⟩ := wf_op w.wf hk
  refine full_sp hF hp w.wf hk vs hlen (fun v hv => by have := hin v hv; omega) r fun v E h1 a s1 => ?_
  have s1' : St h [] h1 (E ++ []) := by simpa using s1
  refine right_sp hF hL ho _ (fullM_in ⟨hlo, hhi⟩ hin) (a.rd s1') fun h2 f2 => ?_
  have s2 := s1.call f2
  refine st_not ?_
  cases hc : (codeM (instOp e) (fullM e.place (flds (opKinds (instOp e))) vs)).isSome with
  | false =>
    rw [hc] at k
    exact st_if (fun _ => k h2 s2.fr) (fun h => by cases h)
  | true =>
    rw [hc] at k
    refine st_if (fun h => by cases h) (fun _ => ?_)
    have hnd : ¬ isData e := by unfold isData; unfold isCode at hk; omega
    refine wrData_sp (s2.fr.get hp (by simp)) (fun h => (hnd h).elim) (by omega) (r.fr s2.fr) ?_
    rw [if_neg (fun h => hnd h.1)]
    exact k h2 s2.fr
theorem wrong_sp (hF : FieldsOk) (hL : LdexpOk) {e : En} {p : Nat} (hp : h[p]? = some (.cells (enE e))) (w : PlE e) {i js jk : Nat} {lv dv : AV} {sz : Int} (hi : h[i]? = some (srcC lv js (.map jk) dv sz)) {f : Str → Option Int} (m : MapAt h jk f)
    {l : List (Nat × En)} (hl : l.length < 1000000000) (rl : Row pE 1 h lv l) (he : ∀ x ∈ l, h[x.1]? = some (.cells (enE x.2))) (k : ∀ h', Fr [] h h' → Q (I (wrongM f (l.map (·.2)) e)) h') : C fn_asm_source_wrong [.ptr i 0, .ptr p 0] h Q := by
  refine asm_source_wrong_ok _ _ _ _ ?_
  unfold asm_source_wrong
  have sp := St.startr hp
  have hal := w.wf.args
  have hlo := w.lo
  have hhi := w.hi
  unfold enE at sp
  unfold wrongM at k
  have hin := valuesM_in (here := e.place) (f := f) fun a ha => (w.wf.arg a ha).2.2
  have vals : (∀ tail : AV → QT, ¬ (isCode e ∧ e.place.tmod 2 ≠ 0) →
      (∀ fv h', Fr [] h h' → Row iE 1 h' fv (valuesM e.place f e.x.2.args).1 → ¬ ((valuesM e.place f e.x.2.args).2 = 4 ∧ e.x.2.kind = 9 ∧ declaredM f (l.map (·.2)) (lastE e) = true) → tail fv (I (valuesM e.place f e.x.2.args).2) h') →
      wrVals (.ptr i 0) (.ptr p 0) tail h Q) := by
    intro tail hno ht
    rw [if_neg hno] at k
    unfold wrVals
    refine asmValues_sp hp w.wf hi m fun v E h1 a s1 => ?_
    have s1' : St h [] h1 (E ++ []) := by simpa using s1
    have r1 : Row iE 1 h1 v (valuesM e.place f e.x.2.args).1 := a.rd s1'
    refine st_ext rfl (st_ext rfl (st_eql ?_))
    refine st_if (fun h4 => ?_) (fun h4 => ?_) <;> simp only [za, zb, zc, zd, ze, zf, zg, zh, zi, u8i, zj, zk, zl] at h4
    · have sp1 := St.startr (s1.fr.get hp (by simp))
      unfold enE at sp1
      refine st_nil (st_fa (st_fa (st_load1 sp1 (.head _) rfl (st_eql ?_))))
      refine st_if (fun h9 => ?_) (fun h9 => ?_) <;> simp only [za, zb, zc, zd, ze, zf, zg, zh, zi, u8i, zj, zk, zl] at h9
      · have h9 : e.x.2.kind = 9 := by omega
        have hne := w.wf.data (by omega) (by omega)
        have hlast := wf_last w.wf hne
        refine last_sp (s1.fr.get hp (by simp)) w.wf hne fun h2 f2 => ?_
        have f2' : Fr [] h h2 := s1.fr.trans f2 (by simp)
        refine declared_sp (f2'.get hi (by simp)) (m.fr f2') hl (rl.fr f2') (fun x hx => f2'.get (he x hx) (by simp)) hlast.1 hlast.2 fun h3 f3 => ?_
        have f3' : Fr [] h h3 := f2'.trans f3 (by simp)
        cases hd : declaredM f (l.map (·.2)) (lastE e) with
        | true =>
          rw [if_pos ⟨h4, h9, hd⟩] at k
          exact st_if (fun _ => k h3 f3') (fun h => by cases h)
        | false => exact st_if (fun h => by cases h) (fun _ => ht v h3 f3' (r1.fr (f2.trans f3 (by simp))) (by simp [hd]))
      · exact ht v h1 s1.fr r1 (fun hh => by omega)
    · exact ht v h1 s1.fr r1 (fun hh => by omega)
  have hA : ¬ (isCode e ∧ e.place.tmod 2 ≠ 0) → isCode e → ∀ fv h', Fr [] h h' → Row iE 1 h' fv (valuesM e.place f e.x.2.args).1 → ¬ ((valuesM e.place f e.x.2.args).2 = 4 ∧ e.x.2.kind = 9 ∧ declaredM f (l.map (·.2)) (lastE e) = true) → (valuesM e.place f e.x.2.args).2 = 0 → wrCode (.ptr p 0) fv h' Q := by
    intro hno hc fv h' f' r' hnd hz
    refine wrCode_sp hF hL (f'.get hp (by simp)) w hc hz r' fun h2 f2 => ?_
    have := k h2 (f'.trans f2 (by simp))
    rw [if_neg hno, if_neg hnd, if_neg (by omega)] at this
    by_cases hcode : (codeM (instOp e) (fullM e.place (flds (opKinds (instOp e))) (valuesM e.place f e.x.2.args).1)).isSome = false
    · rw [if_pos ⟨hc, hcode⟩] at this
      rw [if_pos hcode]; exact this
    · rw [if_neg (fun h => hcode h.2)] at this
      rw [if_neg hcode]
      have hnd : ¬ isData e := by unfold isData; unfold isCode at hc; omega
      rw [if_neg (fun h => hnd h.1)] at this
      exact this
  have hD : ¬ isCode e → ∀ fv h', Fr [] h h' → Row iE 1 h' fv (valuesM e.place f e.x.2.args).1 → ¬ ((valuesM e.place f e.x.2.args).2 = 4 ∧ e.x.2.kind = 9 ∧ declaredM f (l.map (·.2)) (lastE e) = true) → (valuesM e.place f e.x.2.args).2 = 0 → wrData (.ptr p 0) fv h' Q := by
    intro hc fv h' f' r' hnd hz
    have hlen := valuesM_len hz
    refine wrData_sp (f'.get hp (by simp)) (fun hd => ?_) (by omega) r' ?_
    · have : e.x.2.args ≠ [] := w.wf.data (by unfold isData at hd; omega) (by unfold isData at hd; omega)
      intro hv; rw [hv] at hlen; exact this (List.length_eq_zero_iff.1 hlen.symm)
    · have := k h' f'
      rw [if_neg (fun h => hc h.1), if_neg hnd, if_neg (by omega), if_neg (fun h => hc h.1)] at this
      exact this
  have hE : ¬ (isCode e ∧ e.place.tmod 2 ≠ 0) → ∀ h', Fr [] h h' → ¬ ((valuesM e.place f e.x.2.args).2 = 4 ∧ e.x.2.kind = 9 ∧ declaredM f (l.map (·.2)) (lastE e) = true) → (valuesM e.place f e.x.2.args).2 ≠ 0 → Q (I (valuesM e.place f e.x.2.args).2) h' := by
    intro hno h' f' hnd hz
    have := k h' f'
    rw [if_neg hno, if_neg hnd, if_pos hz] at this
    exact this
  have odd : isCode e → e.place.tmod 2 ≠ 0 → Q (I 7) h := fun hc ho => by
    have := k h (Fr.refl _ _)
    rw [if_pos ⟨hc, ho⟩] at this; exact this
  refine st_nil (st_fa (st_fa (st_load1 sp (.head _) rfl (st_eql ?_))))
  refine st_if (fun h1 => ?_) (fun h1 => ?_) <;> simp only [za, zb, zc, zd, ze, zf, zg, zh, zi, u8i, zj, zk, zl] at h1
  · have hc : isCode e := .inl (by omega)
    refine st_nil (st_fa (st_load1 sp (.head _) rfl (st_rem (by decide) (st_neq ?_))))
    refine st_if (fun ho => ?_) (fun ho => ?_) <;> simp only [za, zb, zc, zd, ze, zf, zg, zh, zi, u8i, zj, zk, zl] at ho
    · exact odd hc ho
    · have hno : ¬ (isCode e ∧ e.place.tmod 2 ≠ 0) := fun h => h.2 ho
      refine vals (fun t37 t38 h => wrA (.ptr p 0) t37 t38 h Q) hno fun fv h' f' r' hnd => ?_
      unfold wrA
      refine st_neq ?_
      refine st_if (fun hz => ?_) (fun hz => ?_) <;> simp only [za, zb, zc, zd, ze, zf, zg, zh, zi, u8i, zj, zk, zl] at hz
      · exact hE hno h' f' hnd hz
      · exact hA hno hc fv h' f' r' hnd hz
  · refine st_nil (st_fa (st_fa (st_load1 sp (.head _) rfl (st_eql ?_))))
    refine st_if (fun h2 => ?_) (fun h2 => ?_) <;> simp only [za, zb, zc, zd, ze, zf, zg, zh, zi, u8i, zj, zk, zl] at h2
    · have hc : isCode e := .inr (by omega)
      refine st_nil (st_fa (st_load1 sp (.head _) rfl (st_rem (by decide) (st_neq ?_))))
      refine st_if (fun ho => ?_) (fun ho => ?_) <;> simp only [za, zb, zc, zd, ze, zf, zg, zh, zi, u8i, zj, zk, zl] at ho
      · exact odd hc ho
      · have hno : ¬ (isCode e ∧ e.place.tmod 2 ≠ 0) := fun h => h.2 ho
        have hb2 : decide ((e.x.2.kind : Int) = 2) = true := by simpa using h2
        refine vals (fun t37 t38 h => wrB (B (decide ((e.x.2.kind : Int) = 2))) (.ptr p 0) t37 t38 h Q) hno fun fv h' f' r' hnd => ?_
        unfold wrB
        refine st_neq ?_
        refine st_if (fun hz => ?_) (fun hz => ?_) <;> simp only [za, zb, zc, zd, ze, zf, zg, zh, zi, u8i, zj, zk, zl] at hz
        · exact hE hno h' f' hnd hz
        · rw [hb2]
          exact st_if (fun _ => hA hno hc fv h' f' r' hnd hz) (fun h => by cases h)
    · have hc : ¬ isCode e := by unfold isCode; omega
      have hno : ¬ (isCode e ∧ e.place.tmod 2 ≠ 0) := fun h => hc h.1
      have hb2 : decide ((e.x.2.kind : Int) = 2) = false := by simpa using h2
      refine vals (fun t37 t38 h => wrB (B (decide ((e.x.2.kind : Int) = 2))) (.ptr p 0) t37 t38 h Q) hno fun fv h' f' r' hnd => ?_
      unfold wrB
      refine st_neq ?_
      refine st_if (fun hz => ?_) (fun hz => ?_) <;> simp only [za, zb, zc, zd, ze, zf, zg, zh, zi, u8i, zj, zk, zl] at hz
      · exact hE hno h' f' hnd hz
      · rw [hb2]
        exact st_if (fun h => by cases h) (fun _ => hD hc fv h' f' r' hnd hz)
end
end
end
section
noncomputable section
def beB : Nat → Int → List Int
  | 0, _ => []
  | n + 1, v => IntKind.u8.wrap (v.fdiv (2 ^ (8 * n))) :: beB n v
theorem beB_len : ∀ n v, (beB n v).length = n
  | 0, _ => rfl
  | n + 1, v => by simp [beB, beB_len]
section
variable [Tabs]
def bytesM (syms f : Str → Option Int) (e : En) : List Int :=
  if isCode e then (encM (instOp e) (fullM e.place (flds (opKinds (instOp e))) (valuesM e.place f e.x.2.args).1)).getD []
  else if isData e then (valuesM e.place f e.x.2.args).1.flatMap (beB (2 ^ (e.x.2.kind - 3)))
  else if e.x.2.kind = 6 then e.x.2.text.map fun b => (b.toNat : Int)
  else List.replicate (longM syms e).toNat 0
abbrev bE (v : Int) : List AV := [BI v]
variable {h : AHeap} {Q : QT} {K : AV → Prop} {h0 : AHeap} {M : List Nat} {L : Own} {KH : QT}
theorem st_strBytes {l : Str} (s : St h0 M h L) (k : ∀ i h', St h0 M h' ((i, true, .cells ((l.map fun b => (b.toNat : Int)).flatMap bE)) :: L) → KH (.sl i 0 l.length 1) h') : qStrBytes (T l) h KH := ⟨by
  simp only [eStrBytes]
  have : ((⟨⟨l⟩⟩ : ByteArray).data.toList.map fun b => AV.lit (.int .u8 b.toNat)) = (l.map fun b => (b.toNat : Int)).flatMap bE := by
    clear k s
    induction l with
    | nil => rfl
    | cons a r ih => simpa using ih
  rw [this]
  exact k _ _ (s.push _)⟩
theorem longM_in {f : Str → Option Int} {e : En} (w : WfS e.x.2) (hs : SzOk f e) (hp : 0 ≤ e.place) : 0 ≤ longM f e ∧ longM f e ≤ 4000000000 := by
  have hal := w.args
  have htl := w.text
  unfold longM
  split
  · unfold opSize; split <;> simp
  · split
    · split <;> simp
    · split
      · rename_i hk
        rcases hk with hk | hk | hk <;> rw [hk] <;> simp <;> omega
      · split
        · simp; omega
        · split
          · rename_i h7
            have hv := hs.1 h7
            have hm1 := Int.tmod_nonneg (evalF 0 f (lastE e)).1 hp
            have hm2 := Int.tmod_lt_of_pos e.place (show 0 < (evalF 0 f (lastE e)).1 by omega)
            have h3 := Int.tmod_nonneg (evalF 0 f (lastE e)).1 (show 0 ≤ (evalF 0 f (lastE e)).1 - e.place.tmod (evalF 0 f (lastE e)).1 by omega)
            have h4 := Int.tmod_lt_of_pos ((evalF 0 f (lastE e)).1 - e.place.tmod (evalF 0 f (lastE e)).1) (show 0 < (evalF 0 f (lastE e)).1 by omega)
            omega
          · split
            · rename_i h8
              have hv := hs.2 h8
              omega
            · simp
theorem bytes_sp (hF : FieldsOk) (hL : LdexpOk) {e : En} {p : Nat} (hp : h[p]? = some (.cells (enE e))) (w : PlE e) {i js jk : Nat} {lv dv : AV} {sz : Int} (hi : h[i]? = some (srcC lv js (.map jk) dv sz)) {f g : Str → Option Int} (m : MapAt h jk f) (mg : MapAt h js g) (hs : SzOk g e)
    (hc : isCode e → (valuesM e.place f e.x.2.args).2 = 0 ∧ (encM (instOp e) (fullM e.place (flds (opKinds (instOp e))) (valuesM e.place f e.x.2.args).1)).isSome = true)
    (k : ∀ v h', Fr [] h h' → Row bE 1 h' v (bytesM g f e) → Q v h') : C fn_asm_source_bytes [.ptr i 0, .ptr p 0] h Q := by
  refine asm_source_bytes_ok _ _ _ _ ?_
  unfold asm_source_bytes
  have hlo := w.lo
  have hhi := w.hi
  have hal := w.wf.args
  refine asmValues_sp hp w.wf hi m fun v E h1 a s1 => ?_
  have s1' : St h [] h1 (E ++ []) := by simpa using s1
  have r1 : Row iE 1 h1 v (valuesM e.place f e.x.2.args).1 := a.rd s1'
  have hin := valuesM_in (here := e.place) (f := f) fun a ha => (w.wf.arg a ha).2.2
  have hlen := valuesM_len (here := e.place) (f := f) (args := e.x.2.args)
  have hle := valuesM_le (here := e.place) (f := f) (args := e.x.2.args)
  have sp := St.startr (s1.fr.get hp (by simp))
  unfold enE at sp
  refine st_ext rfl (st_ext rfl (st_nil (st_fa (st_fa (st_load1 sp (.head _) rfl (st_eql ?_))))))
  unfold bytesM at k
  have hj12 : ∀ b : Bool, (b = true ↔ isCode e) → asm_source_bytes_j12 (B b) (I (e.x.2.kind : Nat)) v (.ptr i 0) (.ptr p 0) h1 Q := by
    intro b hb
    unfold asm_source_bytes_j12
    refine st_if (fun hbt => ?_) (fun hbf => ?_)
    · have hcode := hb.1 hbt
      obtain ⟨hz, he⟩ := hc hcode
      rw [if_pos hcode] at k
      have hlen := hlen hz
      generalize (valuesM e.place f e.x.2.args).1 = vs at r1 k hin hlen he ⊢
      obtain ⟨ho, hkl⟩ := wf_op w.wf hcode
      refine full_sp hF (s1.fr.get hp (by simp)) w.wf hcode vs hlen (fun v hv => by have := hin v hv; omega) r1 fun v2 E2 h2 a2 s2 => ?_
      have s2' : St h1 [] h2 (E2 ++ []) := by simpa using s2
      cases hen : encM (instOp e) (fullM e.place (flds (opKinds (instOp e))) vs) with
      | none => rw [hen] at he; cases he
      | some bs =>
        rw [hen] at k
        refine encode_sp hF hL ho _ (fullM_in ⟨hlo, hhi⟩ hin) hen (a2.rd s2') fun h3 f3 => ?_
        refine st_ext rfl (st_ext rfl ?_)
        exact k _ h3 (s1.fr.trans (s2.fr.trans f3 (by simp)) (by simp)) (Row.snap (enc := bE) (fun _ => rfl) bs)
    · have hcode : ¬ isCode e := by rw [← hb, hbf]; simp
      rw [if_neg hcode] at k
      have hj11 : ∀ b : Bool, (b = true ↔ isData e) → asm_source_bytes_j11 (B b) (I (e.x.2.kind : Nat)) v (.ptr i 0) (.ptr p 0) h1 Q := by
        intro b hb
        unfold asm_source_bytes_j11
        refine st_if (fun hbt => ?_) (fun hbf => ?_)
        · have hd := hb.1 hbt
          rw [if_pos hd] at k
          have hkn : 3 ≤ e.x.2.kind ∧ e.x.2.kind ≤ 5 := by unfold isData at hd; omega
          generalize (valuesM e.place f e.x.2.args).1 = vs at r1 k hin hlen hle ⊢
          refine r1.len ?_
          have hw : 2 ^ (e.x.2.kind - 3) ≤ 4 ∧ 1 ≤ 2 ^ (e.x.2.kind - 3) := by unfold isData at hd; rcases hd with h | h | h <;> rw [h] <;> decide
          have hkind : (8 : Int) * 2 ^ (min ((e.x.2.kind : Int) - 3).toNat IntKind.i64.bits) = 8 * (2 ^ (e.x.2.kind - 3) : Nat) := by
            have hb : IntKind.i64.bits = 64 := rfl
            rw [hb]
            unfold isData at hd
            rcases hd with hk | hk | hk <;> rw [hk] <;> rfl
          generalize hW : 2 ^ (e.x.2.kind - 3) = W at hw hkind k
          refine st_loop (fun n vs' h' => ∃ (q : Nat) (u : AV) (E : Own) (bs : List Int), vs' = [u, I (q : Nat)] ∧ n + q = vs.length ∧ bs = (vs.take q).flatMap (beB W) ∧ bs.length = q * W ∧ AccE 1 u bs.length (bs.flatMap bE) E ∧ St h1 [] h' (E ++ [])) vs.length ⟨0, .full 0 [], [], [], rfl, by omega, rfl, by simp, .none 1, St.start h1⟩ ?_
          rintro n vs' h2 ⟨q, u, E2, bs, rfl, hn, hbs, hbl, a2, s2⟩
          unfold asm_source_bytes_l7
          refine st_lss ?_
          refine st_if (fun hq => ?_) (fun hq => ?_) <;> simp only [za, zb, zc, zd, ze, zf, zg, zh, zi, u8i, zj, zk, zl] at hq
          · have hq : q < vs.length := hq
            refine (r1.fr s2.fr).idx (fun _ => rfl) hq fun p1 t => ?_
            refine st_pload1 t ?_
            have sp2 := sp.call s2.fr
            refine st_nil (st_fa (st_fa (st_load1 sp2 (.head _) rfl (st_sub (by omega) ?_))))
            refine st_shl (by omega) ?_
            rw [hkind]
            rw [show IntKind.i64.wrap (8 * (W : Nat) : Int) = 8 * (W : Nat) from wrapI (by omega)]
            refine st_sub (by omega) ?_
            have hqW : q * W ≤ vs.length * 4 := Nat.mul_le_mul (by omega) hw.1
            refine st_loop (fun n2 vs'' h'' => ∃ (r : Nat) (u : AV) (E : Own) (cs : List Int), vs'' = [u, I (8 * (r : Nat) - 8)] ∧ n2 = r ∧ r ≤ W ∧ cs.length + r = bs.length + W ∧ cs ++ beB r vs[q] = bs ++ beB W vs[q] ∧ AccE 1 u cs.length (cs.flatMap bE) E ∧ St h1 [] h'' (E ++ [])) W ⟨W, u, E2, bs, rfl, rfl, Nat.le_refl _, rfl, rfl, a2, s2⟩ ?_
            rintro n2 vs'' h3 ⟨r, u3, E3, cs, rfl, rfl, hrW, hcl, hcs, a3, s3⟩
            unfold asm_source_bytes_l6
            refine st_geq ?_
            refine st_if (fun hr => ?_) (fun hr => ?_) <;> simp only [za, zb, zc, zd, ze, zf, zg, zh, zi, u8i, zj, zk, zl] at hr
            · obtain ⟨r', rfl⟩ : ∃ r', n2 = r' + 1 := ⟨n2 - 1, by omega⟩
              refine st_shr (by omega) ?_
              have hmin : min ((8 * ((r' + 1 : Nat) : Int) - 8)).toNat IntKind.i64.bits = 8 * r' := by
                have hb : IntKind.i64.bits = 64 := rfl
                rw [hb]; omega
              rw [hmin]
              refine st_conv ?_
              refine st_buildS rfl rfl ?_
              refine a3.app s3 (xs := bE (IntKind.u8.wrap (vs[q].fdiv (2 ^ (8 * r'))))) (m := 1) (Rd.full rfl) rfl (by omega) fun v4 E4 h8 a4 s8 => ?_
              refine st_sub (by omega) ?_
              refine ⟨r', by omega, r', v4, E4, cs ++ [IntKind.u8.wrap (vs[q].fdiv (2 ^ (8 * r')))], by rw [show 8 * ((r' + 1 : Nat) : Int) - 8 - 8 = 8 * (r' : Nat) - 8 by omega], rfl, by omega, by simp; omega, ?_, by simpa using a4, s8⟩
              rw [← hcs]; simp [beB]
            · have hr0 : n2 = 0 := by omega
              subst hr0
              refine st_add (by omega) ?_
              simp only [beB, List.append_nil] at hcs
              refine ⟨n - 1, by omega, q + 1, u3, E3, cs, rfl, by omega, ?_, by rw [Nat.add_mul]; omega, a3, s3⟩
              rw [hcs, hbs, List.take_succ_eq_append_getElem hq, List.flatMap_append, List.flatMap_cons, List.flatMap_nil, List.append_nil]
          · rw [List.take_of_length_le (by omega)] at hbs
            subst hbs
            exact k u h2 (s1.fr.trans s2.fr (by simp)) (a2.rd s2)
        · have hd : ¬ isData e := by rw [← hb, hbf]; simp
          rw [if_neg hd] at k
          refine st_eql ?_
          refine st_if (fun h6 => ?_) (fun h6 => ?_) <;> simp only [za, zb, zc, zd, ze, zf, zg, zh, zi, u8i, zj, zk, zl] at h6
          · rw [if_pos (by omega)] at k
            refine st_nil (st_fa (st_fa (st_load1 sp (.head _) rfl ?_)))
            refine st_strBytes (St.start h1) fun j h2 s2 => ?_
            refine k _ h2 (s1.fr.trans s2.fr (by simp)) ?_
            have := Row.sl (enc := bE) (sz := 1) (fun _ => rfl) (s2.get (.head _))
            simpa using this
          · rw [if_neg (by omega)] at k
            refine long_sp (s1.fr.get hp (by simp)) w.wf (s1.fr.get hi (by simp)) (mg.fr s1.fr) hs ⟨hlo, hhi⟩ fun h2 f2 => ?_
            have hli := longM_in w.wf hs hlo
            obtain ⟨n, hn⟩ := Int.eq_ofNat_of_zero_le hli.1
            rw [hn] at hli k ⊢
            refine st_makeSlice (s1.call f2) (Nat.le_refl _) (by simp at hli; omega) (by simp at hli; omega) fun j h3 s3 => ?_
            refine k _ h3 s3.fr ?_
            have hrep : ∀ n : Nat, List.replicate n (BI 0) = (List.replicate n (0 : Int)).flatMap bE := by
              intro n
              induction n with
              | zero => rfl
              | succ n ih => rw [List.replicate_succ, List.replicate_succ, List.flatMap_cons, ← ih]; rfl
            have e3 := s3.get (.head _)
            rw [hrep] at e3
            have := Row.sl (enc := bE) (sz := 1) (fun _ => rfl) e3
            simpa using this
      refine st_eql ?_
      refine st_if (fun h3 => ?_) (fun h3 => ?_) <;> simp only [za, zb, zc, zd, ze, zf, zg, zh, zi, u8i, zj, zk, zl] at h3
      · exact hj11 _ (by unfold isData; simp; omega)
      · refine st_eql ?_
        refine st_if (fun h4 => ?_) (fun h4 => ?_) <;> simp only [za, zb, zc, zd, ze, zf, zg, zh, zi, u8i, zj, zk, zl] at h4
        · exact hj11 _ (by unfold isData; simp; omega)
        · refine st_eql ?_
          exact hj11 _ (by unfold isData; simp; omega)
  refine st_if (fun h1 => ?_) (fun h1 => ?_) <;> simp only [za, zb, zc, zd, ze, zf, zg, zh, zi, u8i, zj, zk, zl] at h1
  · exact hj12 _ (by unfold isCode; simp; omega)
  · refine st_eql ?_
    exact hj12 _ (by unfold isCode; simp; omega)
end
end
end
section
noncomputable section
abbrev Dg := Str × Nat × Int
def dE (d : Dg) : List AV := [T d.1, I (d.2.1 : Nat), I d.2.2]
theorem Sub.pre {L L' : Own} {e e' : Nat × Bool × AObj} (s : Sub L e L' e') : ∀ A : Own, Sub (A ++ L) e (A ++ L') e'
  | [] => s
  | _ :: A => .tail (Sub.pre s A)
theorem Sub.post {L L' : Own} {e e' : Nat × Bool × AObj} (s : Sub L e L' e') (R : Own) : Sub (L ++ R) e (L' ++ R) e' := by
  induction s with
  | head => exact .head
  | tail _ ih => exact .tail ih
def entsO (l : List (Nat × En)) : Own := l.map fun x => (x.1, true, .cells (enE x.2))
theorem ents_mem {l : List (Nat × En)} {x : Nat × En} (h : x ∈ l) : (x.1, true, AObj.cells (enE x.2)) ∈ entsO l := List.mem_map.2 ⟨x, h, rfl⟩
theorem ents_sub : ∀ {l : List (Nat × En)} {q : Nat} (hq : q < l.length) (e' : En), Sub (entsO l) (l[q].1, true, .cells (enE l[q].2)) (entsO (l.set q (l[q].1, e'))) (l[q].1, true, .cells (enE e'))
  | [], q, hq, _ => by simp at hq
  | x :: l, 0, _, e' => .head
  | x :: l, q + 1, hq, e' => by
    have := ents_sub (l := l) (q := q) (by simpa using hq) e'
    simpa [entsO] using Sub.tail this
section
variable [Tabs]
variable {h0 h h' : AHeap} {M : List Nat} {Q : QT} {K : AV → Prop}
structure SS (h0 : AHeap) (M : List Nat) (h : AHeap) (i js : Nat) (l : List (Nat × En)) (ds : List Dg) (lv dv kn : AV) (sz : Int) (kvs : KV) (EL ED R : Own) : Prop where
  al : AccE 1 lv l.length (l.flatMap pE) EL
  ad : AccE 3 dv ds.length (ds.flatMap dE) ED
  st : St h0 M h (ED ++ ((i, true, srcC lv js kn dv sz) :: (js, true, mapO kvs) :: (EL ++ (entsO l ++ R))))
variable {i js : Nat} {l : List (Nat × En)} {ds : List Dg} {lv dv kn : AV} {sz : Int} {kvs : KV} {EL ED R : Own}
theorem SS.src (s : SS h0 M h i js l ds lv dv kn sz kvs EL ED R) : h[i]? = some (srcC lv js kn dv sz) := s.st.get (b := true) (by simp)
theorem SS.syms (s : SS h0 M h i js l ds lv dv kn sz kvs EL ED R) : h[js]? = some (mapO kvs) := s.st.get (b := true) (by simp)
theorem SS.row (s : SS h0 M h i js l ds lv dv kn sz kvs EL ED R) : Row pE 1 h lv l := by
  have hp : (ED ++ ((i, true, srcC lv js kn dv sz) :: (js, true, mapO kvs) :: (EL ++ (entsO l ++ R)))).Perm (EL ++ (ED ++ ((i, true, srcC lv js kn dv sz) :: (js, true, mapO kvs) :: (entsO l ++ R)))) := by
    have h1 : (ED ++ ((i, true, srcC lv js kn dv sz) :: (js, true, mapO kvs) :: (EL ++ (entsO l ++ R)))) = (ED ++ [(i, true, srcC lv js kn dv sz), (js, true, mapO kvs)]) ++ (EL ++ (entsO l ++ R)) := by simp
    have h2 : (ED ++ ((i, true, srcC lv js kn dv sz) :: (js, true, mapO kvs) :: (entsO l ++ R))) = (ED ++ [(i, true, srcC lv js kn dv sz), (js, true, mapO kvs)]) ++ (entsO l ++ R) := by simp
    rw [h1, h2, ← List.append_assoc, ← List.append_assoc EL]
    exact List.Perm.append_right _ List.perm_append_comm
  exact s.al.rd (s.st.perm hp)
theorem SS.ent (s : SS h0 M h i js l ds lv dv kn sz kvs EL ED R) : ∀ x ∈ l, h[x.1]? = some (.cells (enE x.2)) := fun x hx => s.st.get (b := true) (by
  have := ents_mem hx
  simp [this])
theorem SS.rget (s : SS h0 M h i js l ds lv dv kn sz kvs EL ED R) {e : Nat × Bool × AObj} (he : e ∈ R) : h[e.1]? = some e.2.2 := s.st.get (b := e.2.1) (by
  show e ∈ _
  simp [he])
theorem SS.call (s : SS h0 M h i js l ds lv dv kn sz kvs EL ED R) (f : Fr [] h h') : SS h0 M h' i js l ds lv dv kn sz kvs EL ED R := ⟨s.al, s.ad, s.st.call f⟩
theorem SS.front {e : Nat × Bool × AObj} (s : SS h0 M h i js l ds lv dv kn sz kvs EL ED R) (s' : St h0 M h' (e :: (ED ++ ((i, true, srcC lv js kn dv sz) :: (js, true, mapO kvs) :: (EL ++ (entsO l ++ R)))))) : SS h0 M h' i js l ds lv dv kn sz kvs EL ED (e :: R) := ⟨s.al, s.ad, s'.perm (by
  have hx : ∀ R : Own, (ED ++ ((i, true, srcC lv js kn dv sz) :: (js, true, mapO kvs) :: (EL ++ (entsO l ++ R)))) = (ED ++ ((i, true, srcC lv js kn dv sz) :: (js, true, mapO kvs) :: (EL ++ entsO l))) ++ R := fun R => by simp
  rw [hx R, hx (e :: R)]
  exact List.perm_middle.symm)⟩
theorem SS.unR {R' : Own} (s : SS h0 M h i js l ds lv dv kn sz kvs EL ED R) (hs : R'.Sublist R) : SS h0 M h i js l ds lv dv kn sz kvs EL ED R' := ⟨s.al, s.ad, s.st.sub (List.Sublist.append (List.Sublist.refl _) (((List.Sublist.append (List.Sublist.refl _) (List.Sublist.append (List.Sublist.refl _) hs)).cons₂ _).cons₂ _))⟩
theorem SS.subR {R' : Own} {e e' : Nat × Bool × AObj} (u : Sub R e R' e') : Sub (ED ++ ((i, true, srcC lv js kn dv sz) :: (js, true, mapO kvs) :: (EL ++ (entsO l ++ R)))) e (ED ++ ((i, true, srcC lv js kn dv sz) :: (js, true, mapO kvs) :: (EL ++ (entsO l ++ R')))) e' :=
  Sub.pre (.tail (.tail (Sub.pre (Sub.pre u _) _))) _
theorem SS.subE {q : Nat} (hq : q < l.length) (e' : En) : Sub (ED ++ ((i, true, srcC lv js kn dv sz) :: (js, true, mapO kvs) :: (EL ++ (entsO l ++ R)))) (l[q].1, true, .cells (enE l[q].2)) (ED ++ ((i, true, srcC lv js kn dv sz) :: (js, true, mapO kvs) :: (EL ++ (entsO (l.set q (l[q].1, e')) ++ R)))) (l[q].1, true, .cells (enE e')) :=
  Sub.pre (.tail (.tail (Sub.pre (Sub.post (ents_sub hq e') _) _))) _
theorem SS.subS {kn' : AV} {sz' : Int} {lv' dv' : AV} : Sub (ED ++ ((i, true, srcC lv js kn dv sz) :: (js, true, mapO kvs) :: (EL ++ (entsO l ++ R)))) (i, true, srcC lv js kn dv sz) (ED ++ ((i, true, srcC lv' js kn' dv' sz') :: (js, true, mapO kvs) :: (EL ++ (entsO l ++ R)))) (i, true, srcC lv' js kn' dv' sz') := Sub.pre .head _
theorem flat_set_pE : ∀ {l : List (Nat × En)} {q : Nat} (hq : q < l.length) (e' : En), (l.set q (l[q].1, e')).flatMap pE = l.flatMap pE
  | [], q, hq, _ => by simp at hq
  | x :: l, 0, _, e' => rfl
  | x :: l, q + 1, hq, e' => by
    have := flat_set_pE (l := l) (q := q) (by simpa using hq) e'
    simp only [List.set_cons_succ, List.flatMap_cons, List.getElem_cons_succ]
    rw [this]
theorem SS.setE {q : Nat} {e' : En} (s : SS h0 M h i js l ds lv dv kn sz kvs EL ED R) (hq : q < l.length) (s' : St h0 M h' (ED ++ ((i, true, srcC lv js kn dv sz) :: (js, true, mapO kvs) :: (EL ++ (entsO (l.set q (l[q].1, e')) ++ R))))) : SS h0 M h' i js (l.set q (l[q].1, e')) ds lv dv kn sz kvs EL ED R :=
  ⟨by rw [flat_set_pE hq, List.length_set]; exact s.al, s.ad, s'⟩
theorem tell_sp {f : Str} {n : Nat} {er : Int} (hd : ds.length < 1000000000) (s : SS h0 M h i js l ds lv dv kn sz kvs EL ED R)
    (k : ∀ dv' ED' h', SS h0 M h' i js l (ds ++ [(f, n, er)]) lv dv' kn sz kvs EL ED' R → Q (.tup []) h') : C fn_asm_source_tell [.ptr i 0, T f, I (n : Nat), I er] h Q := by
  refine asm_source_tell_ok _ _ _ _ _ _ ?_
  unfold asm_source_tell
  have si := St.startr s.src
  (repeat (first | refine st_nil ?_ | refine st_fa ?_ | refine st_load1 ‹_› (.head _) rfl ?_ | refine st_build rfl ?_ | refine st_buildS rfl rfl ?_))
  refine s.ad.app s.st (xs := dE (f, n, er)) (m := 1) (Rd.full rfl) rfl (by omega) fun dv' ED' h1 a1 s1 => ?_
  refine st_nil (st_fa ?_)
  refine st_storeV (L' := ED' ++ ((i, true, srcC lv js kn dv' sz) :: (js, true, mapO kvs) :: (EL ++ (entsO l ++ R)))) a1.v1 s1 (Sub.pre .head _) (nle rfl) fun h2 s2 => ?_
  exact k dv' ED' h2 ⟨s.al, by simpa using a1, s2⟩
def szMay (syms : Str → Option Int) (e : En) : Bool := if e.x.2.kind = 7 then [1, 2, 4, 8, 16].any (fun y => decide ((evalF 0 syms (lastE e)).1 = y)) else decide (0 ≤ (evalF 0 syms (lastE e)).1) && decide ((evalF 0 syms (lastE e)).1 ≤ 1000)
def szBad (syms : Str → Option Int) (e : En) : Bool := (decide (e.x.2.kind = 7) || decide (e.x.2.kind = 8)) && (hereM (lastE e) || decide ((evalF 0 syms (lastE e)).2 ≠ 0) || !szMay syms e)
def szD (syms : Str → Option Int) (e : En) : List Dg := if szBad syms e = true then [(e.frag, e.x.1, 3)] else []
theorem szD_ok {syms : Str → Option Int} {e : En} (h : szD syms e = []) : SzOk syms e := by
  unfold szD at h
  split at h
  · cases h
  · rename_i hb
    unfold szBad szMay at hb
    unfold SzOk
    constructor
    · intro h7
      rw [h7] at hb
      simp only [decide_true, Bool.true_or, Bool.true_and, Bool.or_eq_true, not_or, if_true, Bool.not_eq_true', Bool.not_eq_false, List.any_eq_true, decide_eq_true_eq] at hb
      obtain ⟨x, hx, he⟩ := hb.2
      simp at hx
      omega
    · intro h8
      rw [h8] at hb
      simp at hb
      obtain ⟨_, h⟩ := hb
      omega
theorem flatD_len {α : Type} {g : α → List Dg} (hg : ∀ x, (g x).length ≤ 1) : ∀ l : List α, (l.flatMap g).length ≤ l.length
  | [] => by simp
  | x :: l => by
    have := flatD_len hg l
    have := hg x
    simp only [List.flatMap_cons, List.length_append, List.length_cons]; omega
theorem szD_len (syms : Str → Option Int) (e : En) : (szD syms e).length ≤ 1 := by unfold szD; split <;> simp
def szTell (s0 s3 s12 : AV) (h7 : AHeap) (next0 : NT) : Prop :=
  qNil s3 fun t68 =>
  qFieldAddr 0 t68 fun t69 =>
  qLoad1 t69 h7 fun t70 =>
  qNil s3 fun t72 =>
  qFieldAddr 1 t72 fun t73 =>
  qFieldAddr 0 t73 fun t74 =>
  qLoad1 t74 h7 fun t75 =>
  C fn_asm_source_tell [s0, t70, t75, (I 3)] h7 fun t76 h8 =>
  asm_source_sized_b2 s12 h8 next0
def szIn (t38 t39 t15 s12 s0 : AV) (h4 : AHeap) (next0 : NT) : Prop :=
  qBin .geq t38 (I 0) fun t41 =>
  ifB t41 (qBin .leq t38 (I 1000) fun t44 =>
  qNil t15 fun t47 =>
  qFieldAddr 1 t47 fun t48 =>
  qFieldAddr 2 t48 fun t49 =>
  qLoad1 t49 h4 fun t50 =>
  qBin .eql t50 (I 7) fun t51 =>
  ifB t51 (
  qBuildSlice 5 1 [(I 1), (I 2), (I 4), (I 8), (I 16)] fun t52 =>
  C fn_slices_Contains__int_int [t52, t38] h4 fun t54 h5 =>
  asm_source_sized_j11 t54 t39 t15 s12 s0 h5 next0) (
  asm_source_sized_j11 t44 t39 t15 s12 s0 h4 next0)) (
  qNil t15 fun t47 =>
  qFieldAddr 1 t47 fun t48 =>
  qFieldAddr 2 t48 fun t49 =>
  qLoad1 t49 h4 fun t50 =>
  qBin .eql t50 (I 7) fun t51 =>
  ifB t51 (
  qBuildSlice 5 1 [(I 1), (I 2), (I 4), (I 8), (I 16)] fun t52 =>
  C fn_slices_Contains__int_int [t52, t38] h4 fun t54 h12 =>
  asm_source_sized_j11 t54 t39 t15 s12 s0 h12 next0) (
  asm_source_sized_j11 (B false) t39 t15 s12 s0 h4 next0))
def szEv (s0 t15 : AV) (h : AHeap) (KK : AV → QT) : Prop :=
  qNil s0 fun t34 =>
  qFieldAddr 1 t34 fun t35 =>
  qLoad1 t35 h fun t36 =>
  C fn_asm_entry_last [t15] h fun t32 h3 =>
  (qLoad1 t35 h3 fun _t =>
  _t = t36) ∧
  C fn_asm_eval [t32, (I 0), t36] h3 fun t37 h4 =>
  qExtract 0 t37 fun t38 =>
  qExtract 1 t37 fun t39 => KK t38 t39 h4
theorem j11_sp {f : Str → Option Int} {e : En} {p : Nat} {may : Bool} {er : Int} {q : Nat} {next : NT} (hd : ds.length < 100000000) (s : SS h0 M h i js l ds lv dv kn sz kvs EL ED R) (hm : (p, e) ∈ l) (w : WfS e.x.2) (hne : e.x.2.args ≠ []) (hq : q < 1000000000)
    (k0 : (hereM (lastE e) || decide (er ≠ 0) || !may) = false → ∀ h', SS h0 M h' i js l ds lv dv kn sz kvs EL ED R → next [I ((q + 1 : Nat) : Int)] h')
    (k1 : (hereM (lastE e) || decide (er ≠ 0) || !may) = true → ∀ dv' ED' h', SS h0 M h' i js l (ds ++ [(e.frag, e.x.1, 3)]) lv dv' kn sz kvs EL ED' R → next [I ((q + 1 : Nat) : Int)] h') : asm_source_sized_j11 (B may) (I er) (.ptr p 0) (I (q : Nat)) (.ptr i 0) h next := by
  unfold asm_source_sized_j11
  have hp := s.ent _ hm
  refine last_sp hp w hne fun h1 f1 => ?_
  have hlast := wf_last w hne
  refine here_sp _ hlast.1 _ _ fun h2 f2 => ?_
  have s2 := (s.call f1).call f2
  have told : (hereM (lastE e) || decide (er ≠ 0) || !may) = true → szTell (.ptr i 0) (.ptr p 0) (I (q : Nat)) h2 next := by
    unfold szTell
    intro hb
    have sp := St.startr (s2.ent _ hm)
    unfold enE at sp
    (repeat (first | refine st_nil ?_ | refine st_fa ?_ | refine st_load1 ‹_› (.head _) rfl ?_))
    refine tell_sp (by omega) s2 fun dv' ED' h3 s3 => ?_
    unfold asm_source_sized_b2 asm_source_sized_j1
    refine st_add (by omega) ?_
    exact k1 hb dv' ED' h3 s3
  cases hh : hereM (lastE e) with
  | true => exact st_if (fun _ => told (by rw [hh]; rfl)) (fun h => by cases h)
  | false =>
    refine st_if (fun h => by cases h) (fun _ => ?_)
    refine st_neq ?_
    refine st_if (fun he => told (by rw [hh, he]; rfl)) (fun he => ?_)
    refine st_not ?_
    refine st_if (fun hn => told (by rw [hn]; simp)) (fun hn => ?_)
    unfold asm_source_sized_b2 asm_source_sized_j1
    refine st_add (by omega) ?_
    exact k0 (by rw [hh, he, hn]; rfl) h2 s2
theorem sized_sp {f : Str → Option Int} (hl : l.length < 10000000) (hd : ds = []) (s : SS h0 M h i js l ds lv dv kn sz kvs EL ED R) (nd : (keysA kvs).Nodup) (hf : ∀ k, lookA k kvs = f k) (w : ∀ x ∈ l, WfS x.2.x.2)
    (k : ∀ dv' ED' h', SS h0 M h' i js l ((l.map (·.2)).flatMap (szD f)) lv dv' kn sz kvs EL ED' R → Q (.tup []) h') : C fn_asm_source_sized [.ptr i 0] h Q := by
  subst hd
  refine asm_source_sized_ok _ _ _ ?_
  unfold asm_source_sized
  have si := St.startr s.src
  (repeat (first | refine st_nil ?_ | refine st_fa ?_ | refine st_load1 ‹_› (.head _) rfl ?_))
  refine s.row.len ?_
  clear si
  refine st_loop (fun n vs h' => ∃ (q : Nat) (dv' : AV) (ED' : Own), vs = [I (q : Nat)] ∧ n + q = l.length ∧ SS h0 M h' i js l (((l.take q).map (·.2)).flatMap (szD f)) lv dv' kn sz kvs EL ED' R) l.length ⟨0, dv, ED, rfl, by omega, s⟩ ?_
  rintro n vs h1 ⟨q, dv1, ED1, rfl, hn, s1⟩
  have hdl := flatD_len (szD_len f) ((l.take q).map (·.2))
  rw [List.length_map, List.length_take] at hdl
  unfold asm_source_sized_l35
  (repeat refine st_lss ?_)
  refine st_if (fun hq => ?_) (fun hq => ?_) <;> simp only [za, zb, zc, zd, ze, zf, zg, zh, zi, u8i, zj, zk, zl] at hq
  · have hq : q < l.length := hq
    have hm := List.getElem_mem hq
    have hsucc : ((l.take (q + 1)).map (·.2)).flatMap (szD f) = ((l.take q).map (·.2)).flatMap (szD f) ++ szD f l[q].2 := by
      rw [List.take_succ_eq_append_getElem hq, List.map_append, List.flatMap_append, List.map_cons, List.map_nil, List.flatMap_cons, List.flatMap_nil, List.append_nil]
    refine s1.row.idx (fun _ => rfl) hq fun p t => ?_
    refine st_pload1 t ?_
    have hp := s1.ent _ hm
    have sp := St.startr hp
    unfold enE at sp
    refine st_nil (st_fa (st_fa (st_load1 sp (.head _) rfl (st_neq ?_))))
    have body : ∀ (h2 : AHeap), (l[q].2.x.2.kind = 7 ∨ l[q].2.x.2.kind = 8) → SS h0 M h2 i js l (((l.take q).map (·.2)).flatMap (szD f)) lv dv1 kn sz kvs EL ED1 R → ∀ may, may = szMay f l[q].2 → asm_source_sized_j11 (B may) (I (evalF 0 f (lastE l[q].2)).2) (.ptr l[q].1 0) (I (q : Nat)) (.ptr i 0) h2 (fun vs' h' => ∃ m, m < n ∧ ∃ (q : Nat) (dv' : AV) (ED' : Own), vs' = [I (q : Nat)] ∧ m + q = l.length ∧ SS h0 M h' i js l (((l.take q).map (·.2)).flatMap (szD f)) lv dv' kn sz kvs EL ED' R) := by
      intro h2 h78 s2 may hmay
      have hdec : (decide (l[q].2.x.2.kind = 7) || decide (l[q].2.x.2.kind = 8)) = true := by simpa using h78
      refine j11_sp (f := f) (e := l[q].2) (p := l[q].1) (by omega) s2 hm (w _ hm) ((w _ hm).data (by omega) (by omega)) (by omega) (fun hb h3 s3 => ?_) (fun hb dv3 ED3 h3 s3 => ?_)
      · refine ⟨n - 1, by omega, q + 1, dv1, ED1, rfl, by omega, ?_⟩
        rw [hsucc, szD, szBad, hdec, ← hmay, hb]; simpa using s3
      · refine ⟨n - 1, by omega, q + 1, dv3, ED3, rfl, by omega, ?_⟩
        rw [hsucc, szD, szBad, hdec, ← hmay, hb]; simpa using s3
    have ev : ∀ (KK : AV → QT), (l[q].2.x.2.kind = 7 ∨ l[q].2.x.2.kind = 8) → (∀ h2, Fr [] h1 h2 → KK (I (evalF 0 f (lastE l[q].2)).1) (I (evalF 0 f (lastE l[q].2)).2) h2) → szEv (.ptr i 0) (.ptr l[q].1 0) h1 KK := by
      unfold szEv
      intro KK h78 hk
      have hne := (w _ hm).data (by omega) (by omega)
      have hlast := wf_last (w _ hm) hne
      have si := St.startr s1.src
      refine st_nil (st_fa (st_load1 si (.head _) rfl ?_))
      refine last_sp hp (w _ hm) hne fun h2 f2 => ?_
      refine ⟨st_load1 (si.call f2) (.head _) rfl rfl, ?_⟩
      refine asmEval_sp hlast.1 hlast.2 0 (MapAt.fr ⟨kvs, s1.syms, nd, hf⟩ f2) fun h3 f3 => ?_
      exact st_ext rfl (st_ext rfl (hk h3 (f2.trans f3 (by simp))))
    have fin : (l[q].2.x.2.kind = 7 ∨ l[q].2.x.2.kind = 8) → szEv (.ptr i 0) (.ptr l[q].1 0) h1 fun t38 t39 h4 => szIn t38 t39 (.ptr l[q].1 0) (I (q : Nat)) (.ptr i 0) h4 (fun vs' h' => ∃ m, m < n ∧ ∃ (q : Nat) (dv' : AV) (ED' : Own), vs' = [I (q : Nat)] ∧ m + q = l.length ∧ SS h0 M h' i js l (((l.take q).map (·.2)).flatMap (szD f)) lv dv' kn sz kvs EL ED' R) := by
      intro h78
      refine ev _ h78 fun h2 f2 => ?_
      unfold szIn
      have s2 := s1.call f2
      have sp2 := St.startr (s2.ent _ hm)
      unfold enE at sp2
      have cont : ∀ h7 : l[q].2.x.2.kind = 7, C fn_slices_Contains__int_int [.full 5 [I 1, I 2, I 4, I 8, I 16], I (evalF 0 f (lastE l[q].2)).1] h2 fun t54 h5 => asm_source_sized_j11 t54 (I (evalF 0 f (lastE l[q].2)).2) (.ptr l[q].1 0) (I (q : Nat)) (.ptr i 0) h5 (fun vs' h' => ∃ m, m < n ∧ ∃ (q : Nat) (dv' : AV) (ED' : Own), vs' = [I (q : Nat)] ∧ m + q = l.length ∧ SS h0 M h' i js l (((l.take q).map (·.2)).flatMap (szD f)) lv dv' kn sz kvs EL ED' R) := by
        intro h7
        refine contains_int_sp (evalF 0 f (lastE l[q].2)).1 [1, 2, 4, 8, 16] (by decide) (Row.full (enc := iE) (fun _ => rfl) [1, 2, 4, 8, 16]) ?_
        exact body h2 h78 s2 _ (by rw [szMay, if_pos h7])
      refine st_geq ?_
      refine st_if (fun hg => ?_) (fun hg => ?_) <;> simp only [za, zb, zc, zd, ze, zf, zg, zh, zi, u8i, zj, zk, zl] at hg
      · refine st_leq ?_
        refine st_nil (st_fa (st_fa (st_load1 sp2 (.head _) rfl (st_eql ?_))))
        refine st_if (fun h7 => ?_) (fun h7 => ?_) <;> simp only [za, zb, zc, zd, ze, zf, zg, zh, zi, u8i, zj, zk, zl] at h7
        · exact st_buildS rfl rfl (cont (by omega))
        · refine body h2 h78 s2 _ ?_
          rw [szMay, if_neg (by omega), show decide (0 ≤ (evalF 0 f (lastE l[q].2)).1) = true by simpa using hg]; rfl
      · refine st_nil (st_fa (st_fa (st_load1 sp2 (.head _) rfl (st_eql ?_))))
        refine st_if (fun h7 => ?_) (fun h7 => ?_) <;> simp only [za, zb, zc, zd, ze, zf, zg, zh, zi, u8i, zj, zk, zl] at h7
        · exact st_buildS rfl rfl (cont (by omega))
        · refine body h2 h78 s2 _ ?_
          rw [szMay, if_neg (by omega), show decide (0 ≤ (evalF 0 f (lastE l[q].2)).1) = false by simp; omega]; rfl
    refine st_if (fun h7 => ?_) (fun h7 => ?_) <;> simp only [za, zb, zc, zd, ze, zf, zg, zh, zi, u8i, zj, zk, zl] at h7
    · refine st_nil (st_fa (st_fa (st_load1 sp (.head _) rfl (st_neq ?_))))
      refine st_if (fun h8 => ?_) (fun h8 => ?_) <;> simp only [za, zb, zc, zd, ze, zf, zg, zh, zi, u8i, zj, zk, zl] at h8
      · unfold asm_source_sized_b2 asm_source_sized_j1
        refine st_add (by omega) ?_
        refine ⟨n - 1, by omega, q + 1, dv1, ED1, rfl, by omega, ?_⟩
        have hdec : (decide (l[q].2.x.2.kind = 7) || decide (l[q].2.x.2.kind = 8)) = false := by simp; omega
        rw [hsucc, szD, szBad, hdec]; simpa using s1
      · exact fin (.inr (by omega))
    · exact fin (.inl (by omega))
  · have hq : q = l.length := by omega
    subst hq
    rw [List.take_length] at s1
    exact k dv1 ED1 h1 s1
end
end
end
section
noncomputable section
def upd (f : Str → Option Int) (k : Str) (v : Int) : Str → Option Int := fun x => if x = k then some v else f x
structure FillInv (g : Int → Int) (kvs : KV) (sn : List Nat) (kv : KV) : Prop where
  nd : (keysA kv).Nodup
  snd : sn.Nodup
  lt : ∀ q ∈ sn, q < kvs.length
  at_ : ∀ k, lookA k kv = if ∃ q ∈ sn, (keysA kvs)[q]? = some k then (lookA k kvs).map g else none
theorem FillInv.start {g : Int → Int} {kvs : KV} : FillInv g kvs [] [] := ⟨by simp [keysA], by simp, by simp, by simp [lookA]⟩
theorem FillInv.step {g : Int → Int} {kvs kv : KV} {sn : List Nat} (I : FillInv g kvs sn kv) (nd : (keysA kvs).Nodup) {q : Nat} (hq : q < kvs.length) (hn : q ∉ sn) : FillInv g kvs (sn ++ [q]) (putA kvs[q].1 (g kvs[q].2) kv) where
  nd := putA_nodup I.nd
  snd := by
    rw [List.nodup_append]
    exact ⟨I.snd, by simp, fun a ha b hb e => by simp at hb; subst hb; subst e; exact hn ha⟩
  lt := by
    intro x hx
    simp only [List.mem_append, List.mem_singleton] at hx
    rcases hx with hx | rfl
    · exact I.lt x hx
    · exact hq
  at_ := by
    intro k
    rw [lookA_putA]
    have hkq : (keysA kvs)[q]? = some kvs[q].1 := by simp [keysA, hq]
    by_cases hk : k = kvs[q].1
    · subst hk
      rw [if_pos rfl, if_pos ⟨q, by simp, hkq⟩]
      have hl : lookA kvs[q].1 kvs = some kvs[q].2 := (lookA_mem nd).2 (List.getElem_mem hq)
      rw [hl]; rfl
    · rw [if_neg hk, I.at_ k]
      have : (∃ x ∈ sn ++ [q], (keysA kvs)[x]? = some k) ↔ ∃ x ∈ sn, (keysA kvs)[x]? = some k := by
        constructor
        · rintro ⟨x, hx, he⟩
          simp only [List.mem_append, List.mem_singleton] at hx
          rcases hx with hx | rfl
          · exact ⟨x, hx, he⟩
          · rw [hkq] at he; exact (hk (Option.some.inj he).symm).elim
        · rintro ⟨x, hx, he⟩
          exact ⟨x, by simp [hx], he⟩
      simp only [this]
theorem FillInv.done {g : Int → Int} {kvs kv : KV} {sn : List Nat} (I : FillInv g kvs sn kv) (hall : ∀ q, q < kvs.length → q ∈ sn) (k : Str) : lookA k kv = (lookA k kvs).map g := by
  rw [I.at_ k]
  split
  · rfl
  · rename_i hn
    have : lookA k kvs = none := by
      rw [lookA_none]
      intro hk
      obtain ⟨q, hq, e⟩ := List.getElem_of_mem hk
      exact hn ⟨q, hall q (by simpa [keysA] using hq), by rw [List.getElem?_eq_getElem hq, e]⟩
    rw [this]; rfl
theorem FillInv.less {g : Int → Int} {kvs kv : KV} {sn : List Nat} (I : FillInv g kvs sn kv) {q : Nat} (hq : q < kvs.length) (hn : q ∉ sn) : sn.length < kvs.length := by
  have hnd : (sn ++ [q]).Nodup := by
    rw [List.nodup_append]
    exact ⟨I.snd, by simp, fun a ha b hb e => by simp at hb; subst hb; subst e; exact hn ha⟩
  have := hnd.length_le_of_subset (l₂ := List.range kvs.length) (fun x hx => List.mem_range.2 (by
    simp only [List.mem_append, List.mem_singleton] at hx
    rcases hx with hx | rfl
    · exact I.lt x hx
    · exact hq))
  simp at this; omega
def namesOf (e : En) : List Str := e.x.2.lab :: (if e.x.2.kind = 9 then [e.x.2.text] else [])
abbrev TwS := (Str → Option Int) × List Dg
def twN (e : En) (st : TwS) (n : Str) : TwS :=
  if n = [] then st else (upd st.1 n ((st.1 n).getD 0 + 1), if 0 < (st.1 n).getD 0 then st.2 ++ [(e.frag, e.x.1, 2)] else st.2)
def twE (st : TwS) (e : En) : TwS := (namesOf e).foldl (twN e) st
def tw0 (f : Str → Option Int) : TwS := (fun k => (f k).map fun _ => 1, [])
def twiceM (f : Str → Option Int) (es : List En) : List Dg := (es.foldl twE (tw0 f)).2
def TwB (st : TwS) (b : Nat) : Prop := st.2.length ≤ b ∧ ∀ k, 0 ≤ (st.1 k).getD 0 ∧ (st.1 k).getD 0 ≤ 1 + b
theorem TwB.step {st : TwS} {b : Nat} (h : TwB st b) (e : En) (n : Str) : TwB (twN e st n) (b + 1) := by
  unfold twN
  split
  · exact ⟨by have := h.1; omega, fun k => by have := h.2 k; omega⟩
  · refine ⟨?_, fun k => ?_⟩
    · have := h.1
      simp only
      split
      · simp; omega
      · omega
    · have := h.2 k
      have := h.2 n
      simp only [upd]
      split
      · simp; omega
      · omega
section
variable [Tabs]
variable {h0 h h' : AHeap} {M : List Nat} {Q : QT} {K : AV → Prop}
variable {i js : Nat} {l : List (Nat × En)} {ds : List Dg} {lv dv kn : AV} {sz : Int} {kvs : KV} {EL ED R : Own}
theorem SS.memR {e : Nat × Bool × AObj} (h : e ∈ R) : e ∈ (ED ++ ((i, true, srcC lv js kn dv sz) :: (js, true, mapO kvs) :: (EL ++ (entsO l ++ R)))) :=
  List.mem_append_right _ (.tail _ (.tail _ (List.mem_append_right _ (List.mem_append_right _ h))))
theorem SS.back {e : Nat × Bool × AObj} (s : SS h0 M h i js l ds lv dv kn sz kvs EL ED (e :: R)) : St h0 M h (e :: (ED ++ ((i, true, srcC lv js kn dv sz) :: (js, true, mapO kvs) :: (EL ++ (entsO l ++ R))))) := s.st.perm (by
  have hx : ∀ R : Own, (ED ++ ((i, true, srcC lv js kn dv sz) :: (js, true, mapO kvs) :: (EL ++ (entsO l ++ R)))) = (ED ++ ((i, true, srcC lv js kn dv sz) :: (js, true, mapO kvs) :: (EL ++ entsO l))) ++ R := fun R => by simp
  rw [hx R, hx (e :: R)]
  exact List.perm_middle)
def chD (f : Str → Option Int) (es : List En) (e : En) : List Dg := if wrongM f es e ≠ 0 then [(e.frag, e.x.1, wrongM f es e)] else []
theorem chD_len (f : Str → Option Int) (es : List En) (e : En) : (chD f es e).length ≤ 1 := by unfold chD; split <;> simp
theorem flat_take_succ {β : Type} (g : En → List β) {l : List (Nat × En)} {q : Nat} (hq : q < l.length) : ((l.take (q + 1)).map (·.2)).flatMap g = ((l.take q).map (·.2)).flatMap g ++ g l[q].2 := by
  rw [List.take_succ_eq_append_getElem hq, List.map_append, List.flatMap_append, List.map_cons, List.map_nil, List.flatMap_cons, List.flatMap_nil, List.append_nil]
theorem check_sp (hF : FieldsOk) (hL : LdexpOk) {f : Str → Option Int} {jk : Nat} {kvk : KV} (hl : l.length < 10000000) (s : SS h0 M h i js l ds lv dv (.map jk) sz kvs EL ED R) (hds : ds = []) (hk : (jk, true, mapO kvk) ∈ R) (nd : (keysA kvk).Nodup) (hf : ∀ k, lookA k kvk = f k) (w : ∀ x ∈ l, PlE x.2)
    (k : ∀ dv' ED' h', SS h0 M h' i js l ((l.map (·.2)).flatMap (chD f (l.map (·.2)))) lv dv' (.map jk) sz kvs EL ED' R → Q (.tup []) h') : C fn_asm_source_check [.ptr i 0] h Q := by
  subst hds
  refine asm_source_check_ok _ _ _ ?_
  unfold asm_source_check
  have si := St.startr s.src
  (repeat (first | refine st_nil ?_ | refine st_fa ?_ | refine st_load1 ‹_› (.head _) rfl ?_))
  refine s.row.len ?_
  clear si
  refine st_loop (fun n vs h' => ∃ (q : Nat) (dv' : AV) (ED' : Own), vs = [I (q : Nat)] ∧ n + q = l.length ∧ SS h0 M h' i js l (((l.take q).map (·.2)).flatMap (chD f (l.map (·.2)))) lv dv' (.map jk) sz kvs EL ED' R) l.length ⟨0, dv, ED, rfl, by omega, s⟩ ?_
  rintro n vs h1 ⟨q, dv1, ED1, rfl, hn, s1⟩
  have hdl := flatD_len (chD_len f (l.map (·.2))) ((l.take q).map (·.2))
  rw [List.length_map, List.length_take] at hdl
  unfold asm_source_check_l5
  (repeat refine st_lss ?_)
  refine st_if (fun hq => ?_) (fun hq => ?_) <;> simp only [za, zb, zc, zd, ze, zf, zg, zh, zi, u8i, zj, zk, zl] at hq
  · have hq : q < l.length := hq
    have hm := List.getElem_mem hq
    have hsucc := flat_take_succ (chD f (l.map (·.2))) hq
    refine s1.row.idx (fun _ => rfl) hq fun p t => ?_
    refine st_pload1 t ?_
    refine wrong_sp hF hL (s1.ent _ hm) (w _ hm) s1.src ⟨kvk, s1.rget hk, nd, hf⟩ (by omega) s1.row s1.ent fun h2 f2 => ?_
    have s2 := s1.call f2
    refine st_neq ?_
    refine st_if (fun hb => ?_) (fun hb => ?_) <;> simp only [za, zb, zc, zd, ze, zf, zg, zh, zi, u8i, zj, zk, zl] at hb
    · have sp2 := St.startr (s2.ent _ hm)
      unfold enE at sp2
      (repeat (first | refine st_nil ?_ | refine st_fa ?_ | refine st_load1 ‹_› (.head _) rfl ?_))
      refine tell_sp (by omega) s2 fun dv' ED' h3 s3 => ?_
      unfold asm_source_check_b4 asm_source_check_j3
      refine st_add (by omega) ?_
      refine ⟨n - 1, by omega, q + 1, dv', ED', rfl, by omega, ?_⟩
      rw [hsucc, chD, if_pos hb]; exact s3
    · unfold asm_source_check_b4 asm_source_check_j3
      refine st_add (by omega) ?_
      refine ⟨n - 1, by omega, q + 1, dv1, ED1, rfl, by omega, ?_⟩
      rw [hsucc, chD, if_neg (by simpa using hb)]; simpa using s2
  · have hq : q = l.length := by omega
    subst hq
    rw [List.take_length] at s1
    exact k dv1 ED1 h1 s1
theorem st_appF {sz bytes n m : Nat} {x : AV} {as1 cs : List AV} {L : Own} {KH : QT} (s : St h0 M h L) (r : Rd h sz x m cs) (ha : as1.length = n * sz) (hm : 0 < m) (hb : (n + m) * bytes ≤ 1099511627776) (k1 : ∀ i h', St h0 M h' ((i, true, .cells (as1 ++ cs)) :: L) → KH (.sl i 0 (n + m) sz) h') :
    qAppend sz bytes (.full n as1) x h KH := ⟨by
  simp only [eAppend, r.2]
  refine ⟨⟨ha, hb⟩, ?_⟩
  rw [if_neg (by omega)]
  exact k1 _ _ (s.push _)⟩
theorem twNames_sp {e : En} {p jm b : Nat} (hm : (p, e) ∈ l) (hb : b < 100000000) (nm : List Str) (hnm : nm.length ≤ 2) {nv : AV} (hrow : ∀ h dv ds ED kv, SS h0 M h i js l ds lv dv kn sz kvs EL ED ((jm, true, mapO kv) :: R) → Row sE 1 h nv nm)
    {st : TwS} (hst : TwB st b) {kv : KV} (nd : (keysA kv).Nodup) (hf : ∀ k, lookA k kv = st.1 k) {q : Nat} (hq : q < 1000000000) (s : SS h0 M h i js l st.2 lv dv kn sz kvs EL ED ((jm, true, mapO kv) :: R)) {next : NT}
    (k : ∀ dv' ED' kv' h', TwB (nm.foldl (twN e) st) (b + nm.length) → (keysA kv').Nodup → (∀ k, lookA k kv' = (nm.foldl (twN e) st).1 k) → SS h0 M h' i js l (nm.foldl (twN e) st).2 lv dv' kn sz kvs EL ED' ((jm, true, mapO kv') :: R) → next [I ((q + 1 : Nat) : Int)] h') :
    asm_source_twice_j14 nv (.ptr p 0) (I (q : Nat)) (.map jm) (.ptr i 0) h next := by
  unfold asm_source_twice_j14
  refine (hrow _ _ _ _ _ s).len ?_
  refine st_loop (fun n vs h' => ∃ (t : Nat) (dv' : AV) (ED' : Own) (kv' : KV), vs = [I (t : Nat)] ∧ n + t = nm.length ∧ TwB ((nm.take t).foldl (twN e) st) (b + t) ∧ (keysA kv').Nodup ∧ (∀ k, lookA k kv' = ((nm.take t).foldl (twN e) st).1 k) ∧ SS h0 M h' i js l ((nm.take t).foldl (twN e) st).2 lv dv' kn sz kvs EL ED' ((jm, true, mapO kv') :: R)) nm.length ⟨0, dv, ED, kv, rfl, by omega, hst, nd, hf, s⟩ ?_
  rintro n vs h1 ⟨t, dv1, ED1, kv1, rfl, hn, hb1, nd1, hf1, s1⟩
  unfold asm_source_twice_l13
  (repeat refine st_lss ?_)
  refine st_if (fun ht => ?_) (fun ht => ?_) <;> simp only [za, zb, zc, zd, ze, zf, zg, zh, zi, u8i, zj, zk, zl] at ht
  · have ht : t < nm.length := ht
    refine (hrow _ _ _ _ _ s1).idx (fun _ => rfl) ht fun p2 t2 => ?_
    refine st_pload1 t2 ?_
    have hsucc : (nm.take (t + 1)).foldl (twN e) st = twN e ((nm.take t).foldl (twN e) st) nm[t] := by
      rw [List.take_succ_eq_append_getElem ht, List.foldl_append]; rfl
    have hb2 := hb1.step e nm[t]
    generalize hst1 : (nm.take t).foldl (twN e) st = st1 at hb1 hf1 s1 hsucc hb2 ⊢
    refine st_seq ?_
    refine st_if (fun he => ?_) (fun he => ?_) <;> simp only [za, zb, zc, zd, ze, zf, zg, zh, zi, u8i, zj, zk, zl] at he
    · unfold asm_source_twice_b9 asm_source_twice_j8
      refine st_add (by omega) ?_
      refine ⟨n - 1, by omega, t + 1, dv1, ED1, kv1, rfl, by omega, ?_⟩
      rw [hsucc]
      refine ⟨by rw [Nat.add_assoc] at hb2; exact hb2, nd1, ?_⟩
      rw [twN, if_pos he]
      exact ⟨hf1, s1⟩
    · have he : nm[t] ≠ [] := he
      have hbk := hb1.2 nm[t]
      have hbl := hb1.1
      have mm : MapAt h1 jm st1.1 := ⟨kv1, s1.rget (.head _), nd1, hf1⟩
      refine mm.look0 ?_
      have hj12 : ∀ dv2 ED2 h2, SS h0 M h2 i js l (if 0 < (st1.1 nm[t]).getD 0 then st1.2 ++ [(e.frag, e.x.1, 2)] else st1.2) lv dv2 kn sz kvs EL ED2 ((jm, true, mapO kv1) :: R) → asm_source_twice_j12 (T nm[t]) (I (t : Nat)) (.map jm) h2 (fun vs' h' => ∃ m, m < n ∧ ∃ (t : Nat) (dv' : AV) (ED' : Own) (kv' : KV), vs' = [I (t : Nat)] ∧ m + t = nm.length ∧ TwB ((nm.take t).foldl (twN e) st) (b + t) ∧ (keysA kv').Nodup ∧ (∀ k, lookA k kv' = ((nm.take t).foldl (twN e) st).1 k) ∧ SS h0 M h' i js l ((nm.take t).foldl (twN e) st).2 lv dv' kn sz kvs EL ED' ((jm, true, mapO kv') :: R)) := by
        intro dv2 ED2 h2 s2
        unfold asm_source_twice_j12
        have mm2 : MapAt h2 jm st1.1 := ⟨kv1, s2.rget (.head _), nd1, hf1⟩
        refine mm2.look0 ?_
        refine st_add (by omega) ?_
        refine st_mapUpd s2.st (SS.subR .head) fun h3 s3 => ?_
        unfold asm_source_twice_b9 asm_source_twice_j8
        refine st_add (by omega) ?_
        refine ⟨n - 1, by omega, t + 1, dv2, ED2, putA nm[t] ((st1.1 nm[t]).getD 0 + 1) kv1, rfl, by omega, ?_⟩
        rw [hsucc]
        refine ⟨by rw [Nat.add_assoc] at hb2; exact hb2, putA_nodup nd1, ?_⟩
        rw [twN, if_neg he]
        exact ⟨fun k => by rw [lookA_putA, hf1]; rfl, ⟨s2.al, s2.ad, s3⟩⟩
      refine st_gtr ?_
      refine st_if (fun hg => ?_) (fun hg => ?_) <;> simp only [za, zb, zc, zd, ze, zf, zg, zh, zi, u8i, zj, zk, zl] at hg
      · have sp := St.startr (s1.ent _ hm)
        unfold enE at sp
        refine st_nil (st_fa (st_load1 sp (.head _) rfl (st_nil (st_fa (st_fa (st_load1 sp (.head _) rfl ?_))))))
        refine tell_sp (by omega) s1 fun dv' ED' h3 s3 => ?_
        exact hj12 dv' ED' h3 (by rw [if_pos hg]; exact s3)
      · exact hj12 dv1 ED1 h1 (by rw [if_neg (by omega)]; exact s1)
  · have ht : t = nm.length := by omega
    subst ht
    rw [List.take_length] at hb1 hf1 s1
    refine st_add (by omega) ?_
    exact k dv1 ED1 kv1 h1 hb1 nd1 hf1 s1
theorem twice_sp {f : Str → Option Int} (hl : l.length < 10000000) (hds : ds = []) (s : SS h0 M h i js l ds lv dv kn sz kvs EL ED R) (nd : (keysA kvs).Nodup) (hf : ∀ k, lookA k kvs = f k)
    (k : ∀ dv' ED' h', SS h0 M h' i js l (twiceM f (l.map (·.2))) lv dv' kn sz kvs EL ED' R → Q (.tup []) h') : C fn_asm_source_twice [.ptr i 0] h Q := by
  subst hds
  refine asm_source_twice_ok _ _ _ ?_
  unfold asm_source_twice
  refine st_makeMap s.st fun jm h1 s1 => ?_
  have s1 := s.front s1
  have si := St.startr s1.src
  (repeat (first | refine st_nil ?_ | refine st_fa ?_ | refine st_load1 ‹_› (.head _) rfl ?_))
  clear si
  refine st_rangeM s1.st s1.syms fun it h2 s2 => ?_
  have s2 := s1.front s2
  refine st_loop (fun n vs h' => ∃ (sn : List Nat) (kv : KV), vs = [] ∧ n + sn.length = kvs.length ∧ FillInv (fun _ => 1) kvs sn kv ∧ SS h0 M h' i js l [] lv dv kn sz kvs EL ED ((it, true, iterO js kvs sn) :: (jm, true, mapO kv) :: R)) kvs.length ⟨[], [], rfl, by simp, .start, s2⟩ ?_
  rintro n vs h3 ⟨sn, kv, rfl, hn, fi, s3⟩
  unfold asm_source_twice_l16
  refine st_nextM s3.back s3.syms (fun hall => ?_) (fun q hq hnq h4 s4 => ?_)
  · refine st_ext rfl (st_if (fun h => by cases h) (fun _ => ?_))
    have hdone := fi.done hall
    have s5 := s3.unR (List.sublist_cons_self _ _)
    have si := St.startr s5.src
    (repeat (first | refine st_nil ?_ | refine st_fa ?_ | refine st_load1 ‹_› (.head _) rfl ?_))
    clear si
    refine s5.row.len ?_
    refine st_loop (fun n vs h' => ∃ (q : Nat) (dv' : AV) (ED' : Own) (kv' : KV), vs = [I (q : Nat)] ∧ n + q = l.length ∧ TwB (((l.take q).map (·.2)).foldl twE (tw0 f)) (2 * q) ∧ (keysA kv').Nodup ∧ (∀ k, lookA k kv' = (((l.take q).map (·.2)).foldl twE (tw0 f)).1 k) ∧ SS h0 M h' i js l (((l.take q).map (·.2)).foldl twE (tw0 f)).2 lv dv' kn sz kvs EL ED' ((jm, true, mapO kv') :: R)) l.length ⟨0, dv, ED, kv, rfl, by omega, ⟨by simp [tw0], fun k => by simp [tw0]; cases f k <;> simp⟩, fi.nd, fun k => by rw [hdone, hf]; rfl, s5⟩ ?_
    rintro n vs h6 ⟨q, dv1, ED1, kv1, rfl, hn, hb1, nd1, hf1, s6⟩
    unfold asm_source_twice_l15
    (repeat refine st_lss ?_)
    refine st_if (fun hq => ?_) (fun hq => ?_) <;> simp only [za, zb, zc, zd, ze, zf, zg, zh, zi, u8i, zj, zk, zl] at hq
    · have hq : q < l.length := hq
      have hm := List.getElem_mem hq
      have hsucc : ((l.take (q + 1)).map (·.2)).foldl twE (tw0 f) = twE (((l.take q).map (·.2)).foldl twE (tw0 f)) l[q].2 := by
        rw [List.take_succ_eq_append_getElem hq, List.map_append, List.foldl_append]; rfl
      generalize hst1 : ((l.take q).map (·.2)).foldl twE (tw0 f) = st1 at hb1 hf1 s6 hsucc
      refine s6.row.idx (fun _ => rfl) hq fun p t => ?_
      refine st_pload1 t ?_
      have sp := St.startr (s6.ent _ hm)
      unfold enE at sp
      refine st_nil (st_fa (st_fa (st_load1 sp (.head _) rfl (st_buildS rfl rfl (st_nil (st_fa (st_fa (st_load1 sp (.head _) rfl (st_eql ?_)))))))))
      have fin : ∀ (nm : List Str) (dv' ED' kv' h'), nm = namesOf l[q].2 → TwB (nm.foldl (twN l[q].2) st1) (2 * q + nm.length) → (keysA kv').Nodup → (∀ k, lookA k kv' = (nm.foldl (twN l[q].2) st1).1 k) → SS h0 M h' i js l (nm.foldl (twN l[q].2) st1).2 lv dv' kn sz kvs EL ED' ((jm, true, mapO kv') :: R) → nm.length ≤ 2 →
          (fun vs' h' => ∃ m, m < n ∧ ∃ (q : Nat) (dv' : AV) (ED' : Own) (kv' : KV), vs' = [I (q : Nat)] ∧ m + q = l.length ∧ TwB (((l.take q).map (·.2)).foldl twE (tw0 f)) (2 * q) ∧ (keysA kv').Nodup ∧ (∀ k, lookA k kv' = (((l.take q).map (·.2)).foldl twE (tw0 f)).1 k) ∧ SS h0 M h' i js l (((l.take q).map (·.2)).foldl twE (tw0 f)).2 lv dv' kn sz kvs EL ED' ((jm, true, mapO kv') :: R)) [I ((q + 1 : Nat) : Int)] h' := by
        rintro nm dv' ED' kv' h' rfl hb' nd' hf' s' hl2
        refine ⟨n - 1, by omega, q + 1, dv', ED', kv', rfl, by omega, ?_⟩
        rw [hsucc]
        exact ⟨⟨by have := hb'.1; unfold twE; omega, fun k => by have := hb'.2 k; unfold twE; omega⟩, nd', hf', s'⟩
      refine st_if (fun h9 => ?_) (fun h9 => ?_) <;> simp only [za, zb, zc, zd, ze, zf, zg, zh, zi, u8i, zj, zk, zl] at h9
      · have h9 : l[q].2.x.2.kind = 9 := by omega
        have hnm : [l[q].2.x.2.lab, l[q].2.x.2.text] = namesOf l[q].2 := by rw [namesOf, if_pos h9]
        refine st_nil (st_fa (st_fa (st_load1 sp (.head _) rfl (st_buildS rfl rfl ?_))))
        refine st_appF s6.st (Rd.full (n := 1) (cs := [T l[q].2.x.2.text]) rfl) rfl (by decide) (by decide) fun jn h7 s7 => ?_
        have s7 := s6.front s7
        have s8 : SS h0 M h7 i js l st1.2 lv dv1 kn sz kvs EL ED1 ((jm, true, mapO kv1) :: (jn, true, .cells [T l[q].2.x.2.lab, T l[q].2.x.2.text]) :: R) := ⟨s7.al, s7.ad, s7.st.perm (by
          refine List.Perm.append_left _ (List.Perm.cons _ (List.Perm.cons _ (List.Perm.append_left _ (List.Perm.append_left _ (List.Perm.swap _ _ _))))))⟩
        refine twNames_sp (e := l[q].2) hm (b := 2 * q) (by omega) [l[q].2.x.2.lab, l[q].2.x.2.text] (by simp) (fun h dv ds ED kv s => ?_) hb1 nd1 hf1 (by omega) s8 fun dv' ED' kv' h' b1 n1 f1 s9 => ?_
        · exact Row.sl (enc := sE) (l := [l[q].2.x.2.lab, l[q].2.x.2.text]) (fun _ => rfl) (s.rget (.tail _ (.head _)))
        · refine fin _ dv' ED' kv' h' hnm b1 n1 f1 ⟨s9.al, s9.ad, ?_⟩ (by simp)
          exact (s9.unR (.cons₂ _ (List.sublist_cons_self _ _))).st
      · have hnm : [l[q].2.x.2.lab] = namesOf l[q].2 := by rw [namesOf, if_neg (by omega)]
        refine twNames_sp (e := l[q].2) hm (b := 2 * q) (by omega) [l[q].2.x.2.lab] (by simp) (fun h dv ds ED kv s => ?_) hb1 nd1 hf1 (by omega) s6 fun dv' ED' kv' h' b1 n1 f1 s9 => ?_
        · exact Row.full (enc := sE) (fun _ => rfl) [l[q].2.x.2.lab]
        · exact fin _ dv' ED' kv' h' hnm b1 n1 f1 s9 (by simp)
    · have hq : q = l.length := by omega
      subst hq
      rw [List.take_length] at s6
      exact k dv1 ED1 h6 (s6.unR (List.sublist_cons_self _ _))
  · have s4 := (s3.unR (List.sublist_cons_self _ _)).front s4
    refine st_ext rfl (st_if (fun _ => ?_) (fun h => by cases h))
    refine st_entryM s4.st (b := true) (i := it) (SS.memR (.head _)) s4.syms hq ?_
    refine st_ext rfl ?_
    refine st_mapUpd s4.st (SS.subR (.tail .head)) fun h5 s5 => ?_
    have hlt := fi.less hq hnq
    exact ⟨n - 1, by omega, sn ++ [q], _, rfl, by simp; omega, fi.step nd hq hnq, ⟨s4.al, s4.ad, s5⟩⟩
end
end
end
section
noncomputable section
section
variable [Tabs]
def enAt (e : En) (a : Int) : En := ⟨e.frag, e.x, a, e.grown⟩
def placeS (syms : Str → Option Int) (st : List En × Int) (e : En) : List En × Int := (st.1 ++ [(enAt e st.2)], st.2 + longM syms (enAt e st.2))
def placeL (syms : Str → Option Int) (es : List En) : List En × Int := es.foldl (placeS syms) ([], 0)
end
def labS (f : Str → Option Int) (e : En) : Str → Option Int := if e.x.2.lab ≠ [] then upd f e.x.2.lab e.place else f
def labF (f : Str → Option Int) (es : List En) : Str → Option Int := es.foldl labS f
abbrev EqS := (Str → Option Int) × Bool
def eqStep (st : EqS) (e : En) : EqS := if e.x.2.kind = 9 ∧ st.1 e.x.2.text = none ∧ (evalF e.place st.1 (lastE e)).2 = 0 then (upd st.1 e.x.2.text (evalF e.place st.1 (lastE e)).1, true) else st
def eqRound (es : List En) (f : Str → Option Int) : EqS := es.foldl eqStep (f, false)
def eqFix (es : List En) : Nat → (Str → Option Int) → (Str → Option Int)
  | 0, f => f
  | n + 1, f => if (eqRound es f).2 = true then eqFix es n (eqRound es f).1 else (eqRound es f).1
def undB (f : Str → Option Int) (e : En) : Bool := decide (e.x.2.kind = 9) && (f e.x.2.text).isNone
def und (es : List En) (f : Str → Option Int) : Nat := es.countP (undB f)
theorem countP_lt {α : Type} {p q : α → Bool} : ∀ {l : List α}, (∀ x ∈ l, p x = true → q x = true) → (∃ x ∈ l, q x = true ∧ p x = false) → l.countP p < l.countP q
  | [], _, ⟨x, hx, _⟩ => by simp at hx
  | a :: l, h1, ⟨x, hx, hq, hp⟩ => by
    have hle : l.countP p ≤ l.countP q := List.countP_mono_left fun y hy => h1 y (.tail _ hy)
    rw [List.countP_cons, List.countP_cons]
    rcases List.mem_cons.1 hx with rfl | hx
    · rw [hq, hp]; simp; omega
    · have := countP_lt (fun y hy => h1 y (.tail _ hy)) ⟨x, hx, hq, hp⟩
      have h3 := h1 a (.head _)
      cases hpa : p a with
      | true => rw [h3 hpa]; simp; omega
      | false => simp only [Bool.false_eq_true, if_false]; split <;> omega
theorem eqStep_mono (st : EqS) (e : En) (k : Str) (h : (st.1 k).isSome = true) : ((eqStep st e).1 k).isSome = true := by
  unfold eqStep
  split
  · simp only [upd]; split
    · rfl
    · exact h
  · exact h
theorem eqFold_mono (k : Str) : ∀ (es : List En) (st : EqS), (st.1 k).isSome = true → ((es.foldl eqStep st).1 k).isSome = true
  | [], _, h => h
  | e :: es, st, h => eqFold_mono k es _ (eqStep_mono st e k h)
theorem eqFold_new : ∀ (es : List En) (st : EqS), st.2 = false → (es.foldl eqStep st).2 = true → ∃ e ∈ es, e.x.2.kind = 9 ∧ st.1 e.x.2.text = none ∧ ((es.foldl eqStep st).1 e.x.2.text).isSome = true
  | [], st, h0, h => by simp at h; rw [h0] at h; cases h
  | e :: es, st, h0, h => by
    rw [List.foldl_cons] at h ⊢
    by_cases hc : e.x.2.kind = 9 ∧ st.1 e.x.2.text = none ∧ (evalF e.place st.1 (lastE e)).2 = 0
    · refine ⟨e, .head _, hc.1, hc.2.1, eqFold_mono _ es _ ?_⟩
      unfold eqStep; rw [if_pos hc]; simp [upd]
    · have : eqStep st e = st := by unfold eqStep; rw [if_neg hc]
      rw [this] at h ⊢
      obtain ⟨x, hx, h1⟩ := eqFold_new es st h0 h
      exact ⟨x, .tail _ hx, h1⟩
theorem eqRound_und {es : List En} {f : Str → Option Int} (h : (eqRound es f).2 = true) : und es (eqRound es f).1 < und es f := by
  obtain ⟨e, he, h9, hn, hs⟩ := eqFold_new es (f, false) rfl h
  refine countP_lt (fun x hx hp => ?_) ⟨e, he, ?_, ?_⟩
  · unfold undB at hp ⊢
    simp only [Bool.and_eq_true] at hp ⊢
    refine ⟨hp.1, ?_⟩
    cases hf : f x.x.2.text with
    | none => rfl
    | some v =>
      have := eqFold_mono x.x.2.text es (f, false) (by simp [hf])
      unfold eqRound at hp
      simp only [Option.isNone_iff_eq_none] at hp
      rw [hp.2] at this; cases this
  · unfold undB; simp only at hn; rw [hn]; simp [h9]
  · unfold undB
    unfold eqRound
    simp only [Bool.and_eq_false_iff]
    right
    cases hx : (List.foldl eqStep (f, false) es).1 e.x.2.text with
    | none => rw [hx] at hs; cases hs
    | some v => rfl
section
variable [Tabs]
def layM (syms : Str → Option Int) (es : List En) : List En × (Str → Option Int) × Int :=
  ((placeL syms es).1, eqFix (placeL syms es).1 (es.length + 1) (labF syms (placeL syms es).1), (placeL syms es).2)
theorem placeL_len (syms : Str → Option Int) : ∀ (es : List En) (st : List En × Int), (es.foldl (placeS syms) st).1.length = st.1.length + es.length
  | [], st => by simp
  | e :: es, st => by rw [List.foldl_cons, placeL_len syms es]; simp [placeS]; omega
variable {h0 h h' : AHeap} {M : List Nat} {Q : QT} {K : AV → Prop}
variable {i js : Nat} {l : List (Nat × En)} {ds : List Dg} {lv dv kn : AV} {sz : Int} {kvs : KV} {EL ED R : Own}
theorem eqs_sp {jk : Nat} {f F : Str → Option Int} {kv : KV} (hl : l.length < 10000000) (w : ∀ x ∈ l, WfS x.2.x.2) (nd : (keysA kv).Nodup) (hf : ∀ k, lookA k kv = f k) (hF : F = eqFix (l.map (·.2)) (l.length + 1) f) (s : SS h0 M h i js l ds lv dv (.map jk) sz kvs EL ED ((jk, true, mapO kv) :: R))
    (k : ∀ kv' h', (keysA kv').Nodup → (∀ k, lookA k kv' = F k) → SS h0 M h' i js l ds lv dv (.map jk) sz kvs EL ED ((jk, true, mapO kv') :: R) → Q (.tup []) h') :
    Loop [(B true)] h fun vs12 h next12 => asm_source_lay_l21 (.ptr i 0) Q vs12 h next12 := by
  generalize hes : l.map (·.2) = es at hF
  refine st_loop (fun n vs h' => ∃ (f : Str → Option Int) (kv : KV), (keysA kv).Nodup ∧ (∀ k, lookA k kv = f k) ∧ SS h0 M h' i js l ds lv dv (.map jk) sz kvs EL ED ((jk, true, mapO kv) :: R) ∧ ((vs = [B true] ∧ und es f < n ∧ eqFix es n f = F) ∨ (vs = [B false] ∧ f = F))) (l.length + 1) ⟨f, kv, nd, hf, s, .inl ⟨rfl, ?_, hF.symm⟩⟩ ?_
  · have : und es f ≤ es.length := List.countP_le_length
    rw [← hes, List.length_map] at this
    rw [← hes]; omega
  rintro n vs h1 ⟨f1, kv1, nd1, hf1, s1, ⟨rfl, hu, hfix⟩ | ⟨rfl, rfl⟩⟩
  · unfold asm_source_lay_l21
    refine st_if (fun _ => ?_) (fun h => by cases h)
    obtain ⟨m, rfl⟩ : ∃ m, n = m + 1 := ⟨n - 1, by omega⟩
    rw [eqFix] at hfix
    have si := St.startr s1.src
    (repeat (first | refine st_nil ?_ | refine st_fa ?_ | refine st_load1 ‹_› (.head _) rfl ?_))
    clear si
    refine s1.row.len ?_
    refine st_loop (fun n2 vs h' => ∃ (q : Nat) (kv : KV), vs = [B ((es.take q).foldl eqStep (f1, false)).2, I (q : Nat)] ∧ n2 + q = l.length ∧ (keysA kv).Nodup ∧ (∀ k, lookA k kv = ((es.take q).foldl eqStep (f1, false)).1 k) ∧ SS h0 M h' i js l ds lv dv (.map jk) sz kvs EL ED ((jk, true, mapO kv) :: R)) l.length ⟨0, kv1, rfl, by omega, nd1, hf1, s1⟩ ?_
    rintro n2 vs h2 ⟨q, kv2, rfl, hn, nd2, hf2, s2⟩
    unfold asm_source_lay_l20
    (repeat refine st_lss ?_)
    refine st_if (fun hq => ?_) (fun hq => ?_) <;> simp only [za, zb, zc, zd, ze, zf, zg, zh, zi, u8i, zj, zk, zl] at hq
    · have hq : q < l.length := hq
      have hqe : q < es.length := by rw [← hes]; simpa using hq
      have heq : es[q] = l[q].2 := by subst hes; simp
      have hm := List.getElem_mem hq
      have hw := w _ hm
      have hsucc : (es.take (q + 1)).foldl eqStep (f1, false) = eqStep ((es.take q).foldl eqStep (f1, false)) l[q].2 := by
        rw [List.take_succ_eq_append_getElem hqe, List.foldl_append, heq]; rfl
      generalize hst : (es.take q).foldl eqStep (f1, false) = st at hf2 hsucc ⊢
      refine s2.row.idx (fun _ => rfl) hq fun p t => ?_
      refine st_pload1 t ?_
      have si := St.startr s2.src
      have sp := St.startr (s2.ent _ hm)
      unfold enE at sp
      refine st_nil (st_fa (st_load1 si (.head _) rfl (st_nil (st_fa (st_fa (st_load1 sp (.head _) rfl ?_))))))
      have mm : MapAt h2 jk st.1 := ⟨kv2, s2.rget (.head _), nd2, hf2⟩
      refine mm.look ?_
      refine st_ext rfl (st_ext rfl (st_nil (st_fa (st_fa (st_load1 sp (.head _) rfl (st_neq ?_))))))
      have skip : eqStep st l[q].2 = st → ∀ h', SS h0 M h' i js l ds lv dv (.map jk) sz kvs EL ED ((jk, true, mapO kv2) :: R) → asm_source_lay_b15 (B st.2) (I (q : Nat)) h' (fun vs' h' => ∃ m, m < n2 ∧ ∃ (q : Nat) (kv : KV), vs' = [B ((es.take q).foldl eqStep (f1, false)).2, I (q : Nat)] ∧ m + q = l.length ∧ (keysA kv).Nodup ∧ (∀ k, lookA k kv = ((es.take q).foldl eqStep (f1, false)).1 k) ∧ SS h0 M h' i js l ds lv dv (.map jk) sz kvs EL ED ((jk, true, mapO kv) :: R)) := by
        intro he h' s'
        unfold asm_source_lay_b15 asm_source_lay_j14
        refine st_add (by omega) ?_
        refine ⟨n2 - 1, by omega, q + 1, kv2, ?_⟩
        rw [hsucc, he]
        exact ⟨rfl, by omega, nd2, hf2, s'⟩
      refine st_if (fun h9 => ?_) (fun h9 => ?_) <;> simp only [za, zb, zc, zd, ze, zf, zg, zh, zi, u8i, zj, zk, zl] at h9
      · exact skip (by unfold eqStep; rw [if_neg (fun hc => by omega)]) h2 s2
      · have h9 : l[q].2.x.2.kind = 9 := by omega
        cases hl : st.1 l[q].2.x.2.text with
        | some y =>
          refine st_if (fun _ => ?_) (fun h => by cases h)
          exact skip (by unfold eqStep; rw [if_neg (fun hc => by rw [hl] at hc; cases hc.2.1)]) h2 s2
        | none =>
          refine st_if (fun h => by cases h) (fun _ => ?_)
          refine st_nil (st_fa (st_load1 sp (.head _) rfl (st_nil (st_fa (st_load1 si (.head _) rfl ?_)))))
          have hne := hw.data (by omega) (by omega)
          have hlast := wf_last hw hne
          refine last_sp (s2.ent _ hm) hw hne fun h3 f3 => ?_
          refine ⟨st_load1 (si.call f3) (.head _) rfl rfl, st_load1 (sp.call f3) (.head _) rfl rfl, ?_⟩
          refine asmEval_sp hlast.1 hlast.2 _ (mm.fr f3) fun h4 f4 => ?_
          have s4 := (s2.call f3).call f4
          refine st_ext rfl (st_ext rfl (st_eql ?_))
          refine st_if (fun he => ?_) (fun he => ?_) <;> simp only [za, zb, zc, zd, ze, zf, zg, zh, zi, u8i, zj, zk, zl] at he
          · have si4 := St.startr s4.src
            have sp4 := St.startr (s4.ent _ hm)
            unfold enE at sp4
            refine st_nil (st_fa (st_load1 si4 (.head _) rfl (st_nil (st_fa (st_fa (st_load1 sp4 (.head _) rfl ?_))))))
            refine st_mapIns s4.st (by rw [hf2]; exact hl) (SS.subR .head) fun h5 s5 => ?_
            unfold asm_source_lay_b15 asm_source_lay_j14
            refine st_add (by omega) ?_
            refine ⟨n2 - 1, by omega, q + 1, putA l[q].2.x.2.text (evalF l[q].2.place st.1 (lastE l[q].2)).1 kv2, ?_⟩
            rw [hsucc, eqStep, if_pos ⟨h9, hl, he⟩]
            exact ⟨rfl, by omega, putA_nodup nd2, fun k => by rw [lookA_putA, hf2]; rfl, ⟨s4.al, s4.ad, s5⟩⟩
          · exact skip (by unfold eqStep; rw [if_neg (fun hc => he hc.2.2)]) h4 s4
    · have hql : es.length ≤ q := by rw [← hes, List.length_map]; omega
      rw [List.take_of_length_le hql] at hf2 ⊢
      have hr : eqRound es f1 = es.foldl eqStep (f1, false) := rfl
      rw [← hr] at hf2 ⊢
      cases hmore : (eqRound es f1).2 with
      | true =>
        rw [if_pos hmore] at hfix
        have := eqRound_und hmore
        exact ⟨m, by omega, _, kv2, nd2, hf2, s2, .inl ⟨rfl, by omega, hfix⟩⟩
      | false =>
        rw [if_neg (by rw [hmore]; simp)] at hfix
        exact ⟨0, by omega, _, kv2, nd2, hf2, s2, .inr ⟨rfl, hfix⟩⟩
  · unfold asm_source_lay_l21
    refine st_if (fun h => by cases h) (fun _ => ?_)
    exact k kv1 h1 nd1 hf1 s1
end
end
end
section
noncomputable section
section
variable [Tabs]
variable {h0 h h' : AHeap} {M : List Nat} {Q : QT} {K : AV → Prop}
variable {i js : Nat} {l : List (Nat × En)} {ds : List Dg} {lv dv kn : AV} {sz : Int} {kvs : KV} {EL ED R : Own}
theorem SzOk.place {f : Str → Option Int} {e : En} (h : SzOk f e) (at_ : Int) : SzOk f (enAt e at_) := h
theorem placeL_succ (syms : Str → Option Int) {es : List En} {q : Nat} (hq : q < es.length) : placeL syms (es.take (q + 1)) = placeS syms (placeL syms (es.take q)) es[q] := by
  unfold placeL
  rw [List.take_succ_eq_append_getElem hq, List.foldl_append]; rfl
theorem placeL_in {syms : Str → Option Int} {es : List En} (w : ∀ e ∈ es, WfS e.x.2) (hs : ∀ e ∈ es, SzOk syms e) : ∀ q, q ≤ es.length → 0 ≤ (placeL syms (es.take q)).2 ∧ (placeL syms (es.take q)).2 ≤ 4000000000 * (q : Int)
  | 0, _ => by simp [placeL]
  | q + 1, hq => by
    have ih := placeL_in w hs q (by omega)
    have hq : q < es.length := by omega
    rw [placeL_succ syms hq]
    have hm := List.getElem_mem hq
    have := longM_in (f := syms) (e := (enAt es[q] (placeL syms (es.take q)).2)) (w es[q] hm) (SzOk.place (hs es[q] hm) _) ih.1
    simp only [placeS]; omega
theorem placeL_at {syms : Str → Option Int} {es : List En} (w : ∀ e ∈ es, WfS e.x.2) (hs : ∀ e ∈ es, SzOk syms e) : ∀ q, q ≤ es.length → ∀ e ∈ (placeL syms (es.take q)).1, (∃ e0 ∈ es, e.x = e0.x ∧ e.frag = e0.frag ∧ e.grown = e0.grown) ∧ 0 ≤ e.place ∧ e.place ≤ 4000000000 * (q : Int)
  | 0, _, e, he => by simp [placeL] at he
  | q + 1, hq, e, he => by
    have hq : q < es.length := by omega
    have hin := placeL_in w hs q (by omega)
    rw [placeL_succ syms hq] at he
    simp only [placeS, List.mem_append, List.mem_singleton] at he
    rcases he with he | rfl
    · have := placeL_at w hs q (by omega) e he
      exact ⟨this.1, this.2.1, by omega⟩
    · exact ⟨⟨es[q], List.getElem_mem hq, rfl, rfl, rfl⟩, hin.1, by simp only [enAt]; omega⟩
theorem layAt_sp (hl : l.length < 100000) {f : Str → Option Int} {jk : Nat} {kv0 : KV} (nds : (keysA kvs).Nodup) (hfs : ∀ k, lookA k kvs = f k) (w : ∀ x ∈ l, WfS x.2.x.2) (hs : ∀ x ∈ l, SzOk f x.2) (nd0 : (keysA kv0).Nodup) (hf0 : ∀ k, lookA k kv0 = f k)
    (s : SS h0 M h i js l ds lv dv (.map jk) sz kvs EL ED ((jk, true, mapO kv0) :: R))
    (k : ∀ l' kv' h', l'.map (·.1) = l.map (·.1) → l'.map (·.2) = (layM f (l.map (·.2))).1 → (keysA kv').Nodup → (∀ k, lookA k kv' = (layM f (l.map (·.2))).2.1 k) → SS h0 M h' i js l' ds lv dv (.map jk) (layM f (l.map (·.2))).2.2 kvs EL ED ((jk, true, mapO kv') :: R) → Q (.tup []) h') :
    Loop [(I 0), (I 0)] h fun vs6 h next6 => asm_source_lay_l22 (I (l.length : Nat)) lv (.ptr i 0) Q vs6 h next6 := by
  generalize hes : l.map (·.2) = es at k
  have hel : es.length = l.length := by rw [← hes]; simp
  have wes : ∀ e ∈ es, WfS e.x.2 := by
    intro e he; rw [← hes, List.mem_map] at he; obtain ⟨x, hx, rfl⟩ := he; exact w x hx
  have ses : ∀ e ∈ es, SzOk f e := by
    intro e he; rw [← hes, List.mem_map] at he; obtain ⟨x, hx, rfl⟩ := he; exact hs x hx
  refine st_loop (fun n vs h' => ∃ (q : Nat) (l' : List (Nat × En)) (kv : KV), vs = [I (placeL f (es.take q)).2, I (q : Nat)] ∧ n + q = l.length ∧ l'.map (·.1) = l.map (·.1) ∧ l'.map (·.2) = (placeL f (es.take q)).1 ++ es.drop q ∧ (keysA kv).Nodup ∧ (∀ k, lookA k kv = labF f (placeL f (es.take q)).1 k) ∧ SS h0 M h' i js l' ds lv dv (.map jk) sz kvs EL ED ((jk, true, mapO kv) :: R)) l.length ⟨0, l, kv0, rfl, by omega, rfl, by rw [hes]; rfl, nd0, hf0, s⟩ ?_
  rintro n vs h1 ⟨q, l1, kv1, rfl, hn, hp1, he1, nd1, hf1, s1⟩
  have hl1 : l1.length = l.length := by simpa using congrArg List.length hp1
  have hpl := placeL_len f (es.take q) ([], 0)
  have hpl : (placeL f (es.take q)).1.length = q := by
    unfold placeL; rw [hpl, List.length_take]; simp; omega
  unfold asm_source_lay_l22
  (repeat refine st_lss ?_)
  refine st_if (fun hq => ?_) (fun hq => ?_) <;> simp only [za, zb, zc, zd, ze, zf, zg, zh, zi, u8i, zj, zk, zl] at hq
  · have hq : q < l1.length := by omega
    have hqe : q < es.length := by omega
    have hq0 : q < l.length := by omega
    have hm := List.getElem_mem hq
    have hin := placeL_in wes ses q (by omega)
    have hsucc := placeL_succ f hqe
    have hent : l1[q].2 = es[q] := by
      have : (l1.map (·.2))[q]? = some es[q] := by
        rw [he1, List.getElem?_append_right (by omega), hpl]; simp [hqe]
      rw [List.getElem?_map, List.getElem?_eq_getElem hq] at this
      simpa using this
    generalize hat : (placeL f (es.take q)).2 = at_ at hin ⊢
    refine s1.row.idx (fun _ => rfl) hq fun p t => ?_
    refine st_pload1 t ?_
    refine st_nil (st_fa ?_)
    refine st_store (L' := ED ++ ((i, true, srcC lv js (.map jk) dv sz) :: (js, true, mapO kvs) :: (EL ++ (entsO (l1.set q (l1[q].1, (enAt l1[q].2 at_))) ++ ((jk, true, mapO kv1) :: R))))) (cs := enE l1[q].2) s1.st (SS.subE hq (enAt l1[q].2 at_)) rfl rfl rfl (nle rfl) fun h2 s2 => ?_
    have s2 := s1.setE hq s2
    have hm2 : (l1[q].1, (enAt l1[q].2 at_)) ∈ l1.set q (l1[q].1, (enAt l1[q].2 at_)) := List.mem_set hq _
    have hmap1 : (l1.set q (l1[q].1, (enAt l1[q].2 at_))).map (·.1) = l.map (·.1) := by
      have h1 : l1[q].1 = (l1.map (·.1))[q]'(by simpa using hq) := by simp
      rw [List.map_set, h1, List.set_getElem_self]; exact hp1
    have hmap2 : (l1.set q (l1[q].1, (enAt l1[q].2 at_))).map (·.2) = ((placeL f (es.take q)).1 ++ [(enAt es[q] at_)]) ++ es.drop (q + 1) := by
      rw [List.map_set, he1, List.set_append_right _ _ (by omega), hpl, List.drop_eq_getElem_cons hqe, Nat.sub_self, List.set_cons_zero, hent, List.append_assoc]
      rfl
    have hw : WfS l1[q].2.x.2 := by rw [hent]; exact wes _ (List.getElem_mem hqe)
    have hso : SzOk f (enAt l1[q].2 at_) := by rw [hent]; exact SzOk.place (ses _ (List.getElem_mem hqe)) _
    have hex : (enAt l1[q].2 at_).x = l1[q].2.x := rfl
    have hepl : (enAt l1[q].2 at_).place = at_ := rfl
    have hpe : placeS f (placeL f (es.take q)) es[q] = ((placeL f (es.take q)).1 ++ [(enAt l1[q].2 at_)], at_ + longM f (enAt l1[q].2 at_)) := by rw [placeS, hat, hent]
    rw [← hent] at hmap2
    generalize he2 : (enAt l1[q].2 at_) = e2 at s2 hm2 hmap1 hmap2 hso hex hepl hpe
    rw [← hex] at hw
    generalize hl2 : l1.set q (l1[q].1, e2) = l2 at s2 hm2 hmap1 hmap2
    have sp := St.startr (s2.ent _ hm2)
    unfold enE at sp
    have hj : ∀ h3 kv3, (keysA kv3).Nodup → (∀ k, lookA k kv3 = labS (labF f (placeL f (es.take q)).1) e2 k) → SS h0 M h3 i js l2 ds lv dv (.map jk) sz kvs EL ED ((jk, true, mapO kv3) :: R) → asm_source_lay_j10 (.ptr l1[q].1 0) (I at_) (I (q : Nat)) (.ptr i 0) h3 (fun vs' h' => ∃ m, m < n ∧ ∃ (q : Nat) (l' : List (Nat × En)) (kv : KV), vs' = [I (placeL f (es.take q)).2, I (q : Nat)] ∧ m + q = l.length ∧ l'.map (·.1) = l.map (·.1) ∧ l'.map (·.2) = (placeL f (es.take q)).1 ++ es.drop q ∧ (keysA kv).Nodup ∧ (∀ k, lookA k kv = labF f (placeL f (es.take q)).1 k) ∧ SS h0 M h' i js l' ds lv dv (.map jk) sz kvs EL ED ((jk, true, mapO kv) :: R)) := by
      intro h3 kv3 nd3 hf3 s3
      unfold asm_source_lay_j10
      refine long_sp (e := e2) (s3.ent _ hm2) hw s3.src ⟨kvs, s3.syms, nds, hfs⟩ hso (by rw [hepl]; omega) fun h4 f4 => ?_
      have hlong := longM_in (f := f) (e := e2) hw hso (by rw [hepl]; exact hin.1)
      refine st_add (by omega) ?_
      refine st_add (by omega) ?_
      refine ⟨n - 1, by omega, q + 1, l2, kv3, ?_⟩
      rw [hsucc, hpe]
      refine ⟨rfl, by omega, hmap1, ?_, nd3, ?_, s3.call f4⟩
      · exact hmap2
      · intro k; rw [hf3]; simp only [labF, List.foldl_append, List.foldl_cons, List.foldl_nil]
    refine st_nil (st_fa (st_fa (st_load1 sp (.head _) rfl (st_sne ?_))))
    refine st_if (fun hlab => ?_) (fun hlab => ?_) <;> simp only [za, zb, zc, zd, ze, zf, zg, zh, zi, u8i, zj, zk, zl] at hlab
    · have si := St.startr s2.src
      refine st_nil (st_fa (st_load1 si (.head _) rfl (st_nil (st_fa (st_fa (st_load1 sp (.head _) rfl ?_))))))
      refine st_mapUpd s2.st (SS.subR .head) fun h3 s3 => ?_
      refine hj h3 _ (putA_nodup nd1) (fun k => ?_) ⟨s2.al, s2.ad, s3⟩
      rw [lookA_putA, hf1, labS, if_pos (show e2.x.2.lab ≠ [] from hlab), hepl]; rfl
    · refine hj h2 kv1 nd1 (fun k => ?_) s2
      rw [hf1, labS, if_neg (by simpa using hlab)]
  · have hq : q = l.length := by omega
    subst hq
    rw [show es.take l.length = es by rw [← hel, List.take_length]] at he1 hf1 ⊢
    rw [show es.drop l.length = [] by rw [← hel, List.drop_length], List.append_nil] at he1
    refine st_nil (st_fa ?_)
    refine st_store (L' := ED ++ ((i, true, srcC lv js (.map jk) dv (placeL f es).2) :: (js, true, mapO kvs) :: (EL ++ (entsO l1 ++ ((jk, true, mapO kv1) :: R))))) (cs := [lv, .map js, .map jk, dv, I sz]) s1.st SS.subS rfl rfl rfl (nle rfl) fun h2 s2 => ?_
    have s2 : SS h0 M h2 i js l1 ds lv dv (.map jk) (placeL f es).2 kvs EL ED ((jk, true, mapO kv1) :: R) := ⟨s1.al, s1.ad, s2⟩
    refine eqs_sp (F := (layM f es).2.1) (by omega) (fun x hx => ?_) nd1 hf1 ?_ s2 fun kv' h' nd' hf' s' => ?_
    · have hx2 : x.2 ∈ (placeL f es).1 := by rw [← he1]; exact List.mem_map.2 ⟨x, hx, rfl⟩
      have := placeL_at wes ses es.length (Nat.le_refl _) x.2 (by rw [List.take_length]; exact hx2)
      obtain ⟨⟨e0, h0, h1, _⟩, _⟩ := this
      rw [h1]; exact wes _ h0
    · rw [he1, hl1, ← hel]; rfl
    · exact k l1 kv' h' hp1 he1 nd' hf' s'
theorem lay_sp (hl : l.length < 100000) {f : Str → Option Int} (nds : (keysA kvs).Nodup) (hfs : ∀ k, lookA k kvs = f k) (w : ∀ x ∈ l, WfS x.2.x.2) (hs : ∀ x ∈ l, SzOk f x.2)
    (s : SS h0 M h i js l ds lv dv kn sz kvs EL ED R)
    (k : ∀ l' jk kv' h', l'.map (·.1) = l.map (·.1) → l'.map (·.2) = (layM f (l.map (·.2))).1 → (keysA kv').Nodup → (∀ k, lookA k kv' = (layM f (l.map (·.2))).2.1 k) → SS h0 M h' i js l' ds lv dv (.map jk) (layM f (l.map (·.2))).2.2 kvs EL ED ((jk, true, mapO kv') :: R) → Q (.tup []) h') : C fn_asm_source_lay [.ptr i 0] h Q := by
  refine asm_source_lay_ok _ _ _ ?_
  unfold asm_source_lay
  refine st_makeMap s.st fun jk h1 s1 => ?_
  have s1 := s.front s1
  refine st_nil (st_fa ?_)
  refine st_store (L' := ED ++ ((i, true, srcC lv js (.map jk) dv sz) :: (js, true, mapO kvs) :: (EL ++ (entsO l ++ ((jk, true, .amap [] 0) :: R))))) (cs := [lv, .map js, kn, dv, I sz]) s1.st SS.subS rfl rfl rfl (nle rfl) fun h2 s2 => ?_
  have s2 : SS h0 M h2 i js l ds lv dv (.map jk) sz kvs EL ED ((jk, true, mapO []) :: R) := ⟨s.al, s.ad, s2⟩
  have si := St.startr s2.src
  (repeat (first | refine st_nil ?_ | refine st_fa ?_ | refine st_load1 ‹_› (.head _) rfl ?_))
  clear si
  refine st_rangeM s2.st s2.syms fun it h3 s3 => ?_
  have s3 := s2.front s3
  refine st_loop (fun n vs h' => ∃ (sn : List Nat) (kv : KV), vs = [] ∧ n + sn.length = kvs.length ∧ FillInv (fun v => v) kvs sn kv ∧ SS h0 M h' i js l ds lv dv (.map jk) sz kvs EL ED ((it, true, iterO js kvs sn) :: (jk, true, mapO kv) :: R)) kvs.length ⟨[], [], rfl, by simp, .start, s3⟩ ?_
  rintro n vs h4 ⟨sn, kv, rfl, hn, fi, s4⟩
  unfold asm_source_lay_l23
  refine st_nextM s4.back s4.syms (fun hall => ?_) (fun q hq hnq h5 s5 => ?_)
  · refine st_ext rfl (st_if (fun h => by cases h) (fun _ => ?_))
    have hdone := fi.done hall
    have s5 := s4.unR (List.sublist_cons_self _ _)
    have si := St.startr s5.src
    (repeat (first | refine st_nil ?_ | refine st_fa ?_ | refine st_load1 ‹_› (.head _) rfl ?_))
    clear si
    refine s5.row.len ?_
    refine layAt_sp hl nds hfs w hs fi.nd (fun k => by rw [hdone, hfs]; cases f k <;> rfl) s5 fun l' kv' h' a b c d e => k l' jk kv' h' a b c d e
  · have s5 := (s4.unR (List.sublist_cons_self _ _)).front s5
    refine st_ext rfl (st_if (fun _ => ?_) (fun h => by cases h))
    refine st_entryM s5.st (b := true) (i := it) (SS.memR (.head _)) s5.syms hq ?_
    have si := St.startr s5.src
    (repeat (first | refine st_nil ?_ | refine st_fa ?_ | refine st_ext rfl ?_ | refine st_load1 ‹_› (.head _) rfl ?_))
    clear si
    refine st_mapUpd s5.st (SS.subR (.tail .head)) fun h6 s6 => ?_
    have hlt := fi.less hq hnq
    exact ⟨n - 1, by omega, sn ++ [q], _, rfl, by simp; omega, fi.step nds hq hnq, ⟨s5.al, s5.ad, s6⟩⟩
end
end
end
end Go.Proofs.YtiddcelpooenfaaGreatDoor.AL
