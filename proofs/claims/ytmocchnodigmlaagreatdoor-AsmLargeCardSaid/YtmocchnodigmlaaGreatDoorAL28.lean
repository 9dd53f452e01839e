import Derived.Test.YtmocchnodigmlaaGreatDoorAL27
set_option linter.all false
set_option autoImplicit true
set_option relaxedAutoImplicit true
set_option linter.unusedVariables false
set_option linter.unusedSimpArgs false
/-! maps.Keys and slices.Sorted: what is run in their place. -/
namespace Go.Proofs.YtmocchnodigmlaaGreatDoor.AL
noncomputable section
open Go.RowKit Go.Maps Go.Sort Go.Shelf Go.WideElems Go.WideShapes
open Go.Proofs (encStr)

def keyBytes : MEnts → Option (List (List UInt8))
  | [] => some []
  | (.string s, _, _) :: es => (match keyBytes es with | some l => some (s.data.toList :: l) | none => none)
  | _ => none
def bornUp (lo : Nat) (clock : Nat) : MEnts → Bool
  | [] => true
  | (_, b, _) :: es => bA (Nat.ble lo b) (bA (Nat.blt b clock) (bornUp (Nat.succ b) clock es))
def risingL : List (List UInt8) → Bool
  | [] => true
  | [a] => Nat.ble a.length 1000000
  | a :: b :: l => bA (Nat.ble a.length 1000000) (bA (lLt a b) (risingL (b :: l)))
def spKeys (g : FuncId) (args : List AV) (t : HT) (n : Nat) (K : AV → HT → Nat → Bool) : Bool :=
  match args with
  | [.map j] => fN n fun n => K (.fn (.func g) [] [.ptr n 0]) (t.set (.keys j) n) (n + 1)
  | _ => false
def strAV (l : List UInt8) : AV := S ⟨⟨l⟩⟩
def spSorted (g : FuncId) (args : List AV) (t : HT) (n : Nat) (K : AV → HT → Nat → Bool) : Bool :=
  match args with
  | [.fn (.func g') [] [.ptr i 0]] => bA (Nat.beq g' g) (match t.get i with
    | some (.keys j) => (match t.get j with
      | some (.amap es clock) => (match keyBytes es with
        | some ks => bA (Nat.ble es.length 1000000) (bA (bornUp 0 clock es) (bA (risingL (sortL ks)) (match sortL ks with
          | [] => K (.full 0 []) t n
          | a :: l => fN n fun n => fN (Nat.succ l.length) fun m => K (.sl n 0 m 1) (t.set (.cells (strAV a :: l.map strAV)) n) (n + 1))))
        | none => false)
      | _ => false)
    | _ => false)
  | _ => false

theorem keyBytes_ok : ∀ {es : MEnts} {ks : List (List UInt8)}, keyBytes es = some ks → es.map (·.1) = ks.map fun l => Value.string ⟨⟨l⟩⟩
  | [], ks, h => by cases h; rfl
  | (k, b, v) :: es, ks, h => by
    unfold keyBytes at h
    split at h
    · rename_i he; cases he
    · rename_i s _ _ es' he
      cases he
      split at h
      · rename_i l hl
        cases h
        simp only [List.map_cons, keyBytes_ok hl, List.cons.injEq, and_true]
      · cases h
    · cases h
theorem bornUp_ok {clock : Nat} : ∀ {es : MEnts} {lo : Nat}, bornUp lo clock es = true → (∀ e ∈ es, lo ≤ e.2.1 ∧ e.2.1 < clock) ∧ (es.map (·.2.1)).Nodup
  | [], lo, h => by simp
  | (k, b, v) :: es, lo, h => by
    simp only [bornUp, bA_eq, blt_iff] at h
    obtain ⟨h1, h2, h3⟩ := h
    have h1 := Nat.le_of_ble_eq_true h1
    obtain ⟨i1, i2⟩ := bornUp_ok h3
    refine ⟨fun e he => ?_, ?_⟩
    · rcases List.mem_cons.1 he with rfl | he
      · exact ⟨h1, h2⟩
      · have := i1 e he; omega
    · simp only [List.map_cons, List.nodup_cons]
      refine ⟨fun hm => ?_, i2⟩
      obtain ⟨e, he, hb⟩ := List.mem_map.1 hm
      have := i1 e he
      omega
theorem risingL_ok : ∀ {l : List (List UInt8)}, risingL l = true → l.Pairwise (· < ·) ∧ ∀ a ∈ l, a.length ≤ 1000000
  | [], h => by simp
  | [a], h => by simp only [risingL] at h; exact ⟨by simp, fun b hb => by simp at hb; subst hb; exact Nat.le_of_ble_eq_true h⟩
  | a :: b :: l, h => by
    simp only [risingL, bA_eq] at h
    obtain ⟨h0, h1, h2⟩ := h
    obtain ⟨i1, i2⟩ := risingL_ok h2
    refine ⟨List.pairwise_cons.2 ⟨fun x hx => ?_, i1⟩, fun x hx => ?_⟩
    · have h1 := (lLt_iff _ _).1 h1
      rcases List.mem_cons.1 hx with rfl | hx
      · exact h1
      · exact List.lt_trans h1 ((List.pairwise_cons.1 i1).1 x hx)
    · rcases List.mem_cons.1 hx with rfl | hx
      · exact Nat.le_of_ble_eq_true h0
      · exact i2 x hx

variable [Tabs]
section
variable {P : Program}

/-- What is known of maps.Keys at one map type. -/
def KeysIs (P : Program) (f g : FuncId) (tm : TypeId) : Prop := HasBody P f ∧ ∀ (b : Nat) (W : World), Calls P f #[.map (some b)] W fun e w' => e = .returned (.func (.func g) #[] #[.pointer (some ⟨W.heap.size, 0, none⟩)]) ∧ w' = W.alloc (.cells #[.map (some b)] tm)
/-- What is known of slices.Sorted at keys that are texts. -/
def SortedIs (P : Program) (f g : FuncId) (ks : TypeId) : Prop := HasBody P f ∧ P.underlying ks = some .string ∧ ∀ (Bm b nn : Nat) (D0 : DataW Unit) (R : Value → Option (DataW Unit × List MemPlace)) (W : World), Bm < W.heap.size → W.cell? ⟨Bm, 0, none⟩ = some (.map (some b)) → W.ownsMap P ks R b nn D0 → Maps.size D0 ≤ 1000000 →
  Calls P f #[.func (.func g) #[] #[.pointer (some ⟨Bm, 0, none⟩)]] W fun e w' => ∃ (v : Value) (ss : List (List UInt8)), e = .returned v ∧ ss.Perm (strKeys D0) ∧
    w'.ownsRow W.heap.size ks 1 v ss.length ((ss.mergeSort (fun x y => decide (x ≤ y))).map encStr) ∧ (v = .slice none 0 0 ↔ ss = []) ∧ Below W.heap.size W w'

theorem spKeys_ok {f g : FuncId} {tm : TypeId} (hK : KeysIs P f g tm) {args : List AV} {t : HT} {n : Nat} {h : AHeap} {K : AV → HT → Nat → Bool} (hr : HR t n h) (k : spKeys g args t n K = true) : ACall P f args h (KH K) := by
  unfold spKeys at k
  split at k
  · rename_i j
    rw [fN_eq] at k
    refine ⟨hK.1, fun G w vs s r => ?_⟩
    obtain ⟨x, rfl, hx⟩ := r.single
    simp only [Rep] at hx
    obtain ⟨b, hb, rfl⟩ := hx
    refine (hK.2 b w).mono fun e w' ⟨he, hw⟩ => ?_
    subst hw
    have x : ObjAt (G.add h.length (w.heap.size, 0) 0) (w.alloc (.cells #[.map (some b)] tm)) h.length (.keys j) := by
      have hj : j ≠ h.length := fun e => by have := s.fresh; rw [← e, hb] at this; cases this
      refine ⟨w.heap.size, tm, b, by simp [Gh.add], ?_, by simp only [Gh.add]; rw [if_neg hj]; exact hb⟩
      show (w.heap.push _)[w.heap.size]? = _
      simp
    obtain ⟨s', ev⟩ := sim_push s _ _ 0 x
    refine ⟨.fn (.func g) [] [.ptr n 0], _, _, _, he, ?_, ⟨_, _, hr.push _, k⟩, s', ev⟩
    simp only [Rep, RepL]
    refine ⟨[], [.pointer (some ⟨w.heap.size, 0, none⟩)], rfl, rfl, _, _, rfl, ⟨w.heap.size, 0, ?_, rfl⟩, rfl⟩
    simp [Gh.add, hr.len]
  · cases k

theorem repE_maps {G : Gh} : ∀ {es : MEnts} {l : List MapEntry}, RepE G es l → l.map (·.key) = es.map (·.1) ∧ l.map (·.born) = es.map (·.2.1)
  | [], l, h => by simp only [RepE] at h; subst h; simp
  | (k, n, a) :: es, l, h => by
    simp only [RepE] at h
    obtain ⟨e, r, rfl, h1, h2, _, h5⟩ := h
    obtain ⟨i1, i2⟩ := repE_maps h5
    simp [h1, h2, i1, i2]

theorem spSorted_ok {f g : FuncId} {ks : TypeId} (hS : SortedIs P f g ks) {args : List AV} {t : HT} {n : Nat} {h : AHeap} {K : AV → HT → Nat → Bool} (hr : HR t n h) (k : spSorted g args t n K = true) : ACall P f args h (KH K) := by
  unfold spSorted at k
  split at k
  · rename_i g' i
    rw [bA_eq] at k
    obtain ⟨hg, k⟩ := k
    have hg := Nat.eq_of_beq_eq_true hg
    subst hg
    split at k
    · rename_i j hi
      split at k
      · rename_i es clock hj
        split at k
        · rename_i l hl
          rw [bA_eq, bA_eq, bA_eq] at k
          obtain ⟨hlen, hborn, hrise, k⟩ := k
          have hlen := Nat.le_of_ble_eq_true hlen
          refine ⟨hS.1, fun G w vs s r => ?_⟩
          obtain ⟨x, rfl, hx⟩ := r.single
          simp only [Rep, RepL] at hx
          obtain ⟨_, _, rfl, rfl, y, _, rfl, ⟨b0, o0, hb0, rfl⟩, rfl⟩ := hx
          obtain ⟨b1, el, q, e1, e2, e3⟩ := s.obj i _ (hr.at_ i _ hi)
          rw [hb0] at e1; cases e1
          obtain ⟨b2, arr, e4, e5, e6⟩ := s.obj j _ (hr.at_ j _ hj)
          rw [e3] at e4; cases e4
          obtain ⟨m1, m2⟩ := repE_maps e6
          have hkeys := keyBytes_ok hl
          obtain ⟨n1, n2⟩ := bornUp_ok hborn
          obtain ⟨r1, r2⟩ := risingL_ok hrise
          have hperm := sortL_perm l
          have hsz : ∀ a ∈ l, a.length ≤ 1000000 := fun a ha => r2 a (hperm.mem_iff.2 ha)
          have hnd : l.Nodup := hperm.nodup_iff.1 (r1.imp fun h e => by subst e; exact List.lt_irrefl _ h)
          have harr : arr.toList.length = es.length := e6.length
          let R : Value → Option (DataW Unit × List MemPlace) := fun _ => some (.nil, [])
          have hkey : ∀ x ∈ arr.toList, ∃ a ∈ l, x.key = .string ⟨⟨a⟩⟩ := fun x hx => by
            have : x.key ∈ arr.toList.map (·.key) := List.mem_map_of_mem hx
            rw [m1, hkeys] at this
            obtain ⟨a, ha, e⟩ := List.mem_map.1 this
            exact ⟨a, ha, e.symm⟩
          have hrd : ∀ x ∈ arr.toList, ∀ a, x.key = .string ⟨⟨a⟩⟩ → a.length ≤ 1000000 → rd P ks R x = some (.string a, .nil) := fun x hx a e ha => by
            have : (⟨⟨a⟩⟩ : ByteArray).size ≤ maxLen := by show a.length ≤ maxLen; unfold maxLen; omega
            simp [rd, keyOf, mapKey, hS.2.1, e, this, R]
          have hfit : Fit P ks R arr clock := by
            refine ⟨?_, ⟨fun x hx => ?_, ?_, ?_⟩, fun x hx => ?_⟩
            · have : arr.size = es.length := by simpa using harr
              unfold maxLen; omega
            · have : x.born ∈ arr.toList.map (·.born) := List.mem_map_of_mem hx
              rw [m2] at this
              obtain ⟨e, he, hb⟩ := List.mem_map.1 this
              rw [← hb]; exact (n1 e he).2
            · rw [m2]; exact n2
            · rw [m1, hkeys]
              refine List.pairwise_map.2 (hnd.imp fun h e => h ?_)
              simpa using e
            · obtain ⟨a, ha, e⟩ := hkey x hx
              exact ⟨_, hrd x hx a e (hsz a ha)⟩
          have hsk : (strKeys (.map ((arr.toList.map (rg P ks R)).foldr DataW.insert []) : DataW Unit)).Perm l := by
            show ((arr.toList.map (rg P ks R)).foldr DataW.insert []).map (fun p => strOf p.1) |>.Perm l
            refine ((sorted_perm _).map _).trans ?_
            rw [List.map_map]
            have : arr.toList.map ((fun p : Lit × DataW Unit => strOf p.1) ∘ rg P ks R) = l := by
              have e1 : arr.toList.map ((fun p : Lit × DataW Unit => strOf p.1) ∘ rg P ks R) = arr.toList.map fun x => (match x.key with | .string s => s.data.toList | _ => []) := by
                refine List.map_congr_left fun x hx => ?_
                obtain ⟨a, ha, e⟩ := hkey x hx
                simp only [Function.comp, rg, hrd x hx a e (hsz a ha), Option.getD_some, strOf, e]
              rw [e1]
              have e2 : arr.toList.map (fun x => (match x.key with | .string s => s.data.toList | _ => [])) = (arr.toList.map (·.key)).map fun v => (match v with | .string s => s.data.toList | _ => []) := by rw [List.map_map]; rfl
              rw [e2, m1, hkeys, List.map_map]
              exact List.map_id'' (fun a => rfl) l
            rw [this]
          have hsize : Maps.size (.map ((arr.toList.map (rg P ks R)).foldr DataW.insert []) : DataW Unit) ≤ 1000000 := by
            show ((arr.toList.map (rg P ks R)).foldr DataW.insert []).length ≤ _
            rw [length_sorted, List.length_map, harr]; exact hlen
          have hcell : w.cell? ⟨b0, 0, none⟩ = some (.map (some q)) := by simp [World.cell?, e2]
          have hlt : b0 < w.heap.size := (Array.getElem?_eq_some_iff.1 e2).1
          refine (hS.2.2 b0 q arr.size _ R w hlt hcell ⟨arr, clock, e5, hfit, Nat.le_refl _, rfl⟩ hsize).mono fun e w' ⟨v, ss, he, hp, hrow, hnil, hb⟩ => ?_
          have hms := mergeSort_sortL (hp.trans hsk)
          have hms' : ss.mergeSort (fun x y => decide (x ≤ y)) = sortL l := hms
          rw [hms'] at hrow
          have hslen : ss.length = (sortL l).length := by rw [← hms]; exact (List.length_mergeSort _).symm
          rw [hslen] at hrow
          split at k
          · rename_i hnl
            have hss : ss = [] := by rw [hnl] at hslen; exact List.length_eq_zero_iff.1 hslen
            obtain ⟨s', ev⟩ := sim_below s hb
            exact ⟨.full 0 [], v, h, G, he, by rw [hnil.2 hss]; simp [Rep], ⟨t, n, hr, k⟩, s', ev⟩
          · rename_i a l' hcons
            rw [fN_eq, fN_eq] at k
            rcases hrow.2 with ⟨hv, hz⟩ | ⟨gb, cap, cur, hv, hbase, hgb, c1, c2, c3, c4⟩
            · rw [hcons] at hz; simp at hz
            · rw [hcons] at hv c1 c4
              have x : ObjAt (G.add h.length (gb, 0) cap) w' h.length (.cells (strAV a :: l'.map strAV)) := by
                refine ⟨gb, 0, cur, ks, 0, 0, by simp [Gh.add], hgb, fun k _ hk => by omega, ?_, by simp [Gh.add, c3], fun j' a' ha' => ?_⟩
                · simp [Gh.add]; simpa using c1
                · have hjl : j' < (strAV a :: l'.map strAV).length := (List.getElem?_eq_some_iff.1 ha').1
                  have : strAV a :: l'.map strAV = (a :: l').map strAV := rfl
                  rw [this, List.getElem?_map] at ha'
                  cases hjj : (a :: l')[j']? with
                  | none => rw [hjj] at ha'; cases ha'
                  | some z =>
                    rw [hjj] at ha'
                    cases ha'
                    refine ⟨encStr z, ?_, by simp [Rep, strAV, encStr, Value.oneCell']⟩
                    have hj3 : (cur.toList.take ((a :: l').length * 1))[j']? = some (encStr z) := by rw [c4, List.getElem?_map, hjj]; rfl
                    rw [List.getElem?_take] at hj3
                    split at hj3
                    · simpa using hj3
                    · cases hj3
              obtain ⟨s', ev⟩ := sim_adopt s hb gb hbase _ cap x
              refine ⟨.sl n 0 (Nat.succ l'.length) 1, v, _, _, he, ?_, ⟨_, _, hr.push _, k⟩, s', ev⟩
              rw [hv]
              simp only [Rep]
              exact ⟨gb, 0, cap, 0, by simp [Gh.add, hr.len], by simp [Gh.add, hr.len], by simpa using c1, fun _ => rfl, rfl⟩
        · cases k
      · cases k
    · cases k
  · cases k
end
end
end Go.Proofs.YtmocchnodigmlaaGreatDoor.AL
