import Derived.Test.YtmocchnodigmlaaGreatDoorAL9
import Derived.Test.YtmocchnodigmlaaGreatDoorAL8n
import Derived.Laws.IdiomStrings
import Derived.Laws.BytesArg
import Derived.Laws.MakeOwn
import Derived.Laws.StructEq
set_option linter.all false
set_option autoImplicit true
set_option relaxedAutoImplicit true
set_option linter.unusedVariables false
/-! Texts and bytes; rows that are made; what is nil; whether structs are alike. -/
namespace Go.Proofs.YtmocchnodigmlaaGreatDoor.AL
variable [Tabs]
section
variable {P : Program} {G : Gh} {h : AHeap} {w : World}

def bytesOf : List AV → Option (List UInt8)
  | [] => some []
  | .lit (.int .u8 n) :: r => match bytesOf r with | some l => some (UInt8.ofNat n.toNat :: l) | none => none
  | _ => none
theorem bytesOf_rep : ∀ {xs : List AV} {vs : List Value} {l : List UInt8}, RepL G xs vs → bytesOf xs = some l → ∃ ns : List Int, vs = ns.map (Value.int .u8) ∧ l = ns.map fun n => UInt8.ofNat n.toNat
  | [], vs, l, r, h => by simp only [RepL] at r; simp only [bytesOf, Option.some.injEq] at h; subst r; subst h; exact ⟨[], rfl, rfl⟩
  | a :: xs, vs, l, r, h => by
    simp only [RepL] at r
    obtain ⟨v, ws, rfl, h1, h2⟩ := r
    unfold bytesOf at h
    split at h
    · rename_i hn; cases hn
    · rename_i n r' hn
      cases hn
      split at h
      · rename_i l' hl
        cases h
        obtain ⟨ns, rfl, rfl⟩ := bytesOf_rep h2 hl
        simp only [Rep] at h1
        exact ⟨n :: ns, by simp [h1.1], by simp⟩
      · cases h
    · cases h
theorem bytesOf_bytes : ∀ l : List UInt8, bytesOf (l.map fun b => .lit (.int .u8 b.toNat)) = some l
  | [] => rfl
  | b :: l => by simp [bytesOf, bytesOf_bytes l]
def isRow : AV → Bool
  | .sl _ _ _ _ => true
  | .snap _ _ => true
  | .full _ _ => true
  | _ => false
def pBytesStr (x : AV) (h : AHeap) (K : AV → Prop) : Prop :=
  if isRow x = true then (match aElems h 1 x with
    | some (_, xs) => (match bytesOf xs with | some l => K (S ⟨l.toArray⟩) | none => False)
    | none => False) else False
theorem row_slice {x : AV} {v : Value} (hx : Rep G x v) (hr : isRow x = true) : ∃ a l c, v = .slice a l c := by
  cases x <;> simp [isRow] at hr <;> simp only [Rep] at hx
  · obtain ⟨b, o, c, ad, _, _, _, _, rfl⟩ := hx; exact ⟨_, _, _, rfl⟩
  · rcases hx with ⟨_, _, rfl⟩ | ⟨b, o, c, _, rfl, _⟩ <;> exact ⟨_, _, _, rfl⟩
  · rcases hx with ⟨_, _, rfl⟩ | ⟨b, o, rfl, _⟩ <;> exact ⟨_, _, _, rfl⟩
theorem pBytesStr_ok (s : Sim G h w) {src dst e : TypeId} (hs : P.underlying src = some (.slice e)) (he : P.underlying e = some (.int .u8)) (hd : P.underlying dst = some .string) {x : AV} {v : Value} (hx : Rep G x v) {K : AV → Prop} (k : pBytesStr x h K) :
    Yl P G w (convert src dst v) K := by
  unfold pBytesStr at k
  split at k
  · rename_i hr
    split at k
    · rename_i m xs hxs
      split at k
      · rename_i l hl
        obtain ⟨vs, q1, q2, q3, q4⟩ := aElems_ok (P := P) s hx hxs
        obtain ⟨ns, rfl, rfl⟩ := bytesOf_rep q2 hl
        obtain ⟨a, len, c, rfl⟩ := row_slice hx hr
        refine ⟨_, .string ⟨(ns.map fun n => UInt8.ofNat n.toNat).toArray⟩, ?_, by simp [Rep, Value.oneCell'], k⟩
        rw [run_convert_bytes_string w src dst e a len c hs he hd]
        have hlen : len = m := by simpa [Builtin.lenOf] using q3
        subst hlen
        cases a with
        | none =>
          have : ns = [] := by
            simp [Builtin.firstCells] at q4
            exact q4.symm ▸ rfl
          subst this
          simp [Conv.bytesToString]; rfl
        | some a =>
          have hlc : (loadCells a len).run P w = .ok (ns.map (Value.int .u8)).toArray w := by
            simpa [Builtin.firstCells] using q4
          rw [run_bytesToString w a len c ns hlc, foldl_push_bytes]
          congr 2
          apply ByteArray.ext
          simp [ByteArray.empty, ByteArray.emptyWithCapacity]
          rfl
      · exact k.elim
    · exact k.elim
  · exact k.elim

def eStrBytes (x : AV) (h : AHeap) (K : AV → AHeap → Prop) : Prop :=
  match x with
  | .lit (.string s) => K (.sl h.length 0 s.size 1) (h ++ [.cells (s.data.toList.map fun b => .lit (.int .u8 b.toNat))])
  | _ => False
theorem eStrBytes_ok (s : Sim G h w) {src dst e : TypeId} (hs : P.underlying src = some .string) (hd : P.underlying dst = some (.slice e)) (he : P.underlying e = some (.int .u8)) {x : AV} {v : Value} (hx : Rep G x v) {K : AV → AHeap → Prop} (k : eStrBytes x h K) :
    Ye P G h w (convert src dst v) K := by
  unfold eStrBytes at k
  split at k
  · rename_i str
    simp only [Rep] at hx
    obtain ⟨rfl, _⟩ := hx
    obtain ⟨sd, evd⟩ := s.drawn (w.drawn + 1)
    have hge : str.size ≤ grownCap w str.size 0 e := by simp only [grownCap, Question.cut]; omega
    have hrun := run_bytes_of_string (P := P) w src dst e str hs hd he
    generalize grownCap w str.size 0 e = c at hge hrun
    have hsz : (bytesRow str c).size = c := by
      have : str.data.size = str.size := rfl
      simp only [bytesRow, Array.size_append, Array.size_map, Array.size_replicate]; omega
    generalize hC : bytesRow str c = C at hrun hsz
    have x : ObjAt (G.add h.length (w.drew.heap.size, 0) c) (w.drew.alloc (.cells C e (C.size, C.size + 1))) h.length (.cells (str.data.toList.map fun b => .lit (.int .u8 b.toNat))) := by
      refine ⟨w.heap.size, 0, C, e, C.size, C.size + 1, by simp [Gh.add], ?_, by omega, ?_, ?_, ?_⟩
      · show (w.heap.push _)[w.heap.size]? = _
        simp
      · simp only [Gh.add, if_true, List.length_map, Array.length_toList]; exact hge
      · simp only [Gh.add, if_true, hsz]; omega
      · intro j a ha
        rw [List.getElem?_map] at ha
        cases hj : str.data.toList[j]? with
        | none => rw [hj] at ha; cases ha
        | some b =>
          rw [hj] at ha
          simp only [Option.map_some, Option.some.injEq] at ha
          subst ha
          have hlt : j < str.data.toList.length := (List.getElem?_eq_some_iff.1 hj).1
          refine ⟨.int .u8 b.toNat, ?_, by simp [Rep, Value.oneCell']⟩
          rw [← hC, Nat.zero_add]
          unfold bytesRow
          rw [Array.getElem?_append_left (by simpa using hlt)]
          have : str.data[j]? = some b := by simpa using hj
          simp [this]
    obtain ⟨s', ev⟩ := sim_push sd (.cells C e (C.size, C.size + 1)) _ c x
    refine ⟨_, _, _, _, _, hrun, ?_, k, s', evd.trans ev⟩
    simp only [Rep]
    exact ⟨w.heap.size, 0, c, 0, by simp [Gh.add], by simp [Gh.add], hge, fun _ => rfl, rfl⟩
  · exact k.elim

/-! ### make -/
def eMakeSlice (bytes : Nat) (z l c : AV) (h : AHeap) (K : AV → AHeap → Prop) : Prop :=
  match l, c with
  | .lit (.int _ l), .lit (.int _ c) => (0 ≤ l ∧ l ≤ c ∧ (bytes : Int) * c ≤ 1099511627776 ∧ c ≤ 1099511627776) ∧ K (.sl h.length 0 l.toNat 1) (h ++ [.cells (List.replicate c.toNat z)])
  | _, _ => False
theorem eMakeSlice_ok (s : Sim G h w) {t e : TypeId} {i : TypeInfo} {z : Value} (ht : P.underlying t = some (.slice e)) (hi : P.info? e = some i) (hz : i.zero = some z) (h1 : i.size = 1) (hzo : z.oneCell' = true) {l c : AV} {lv cv : Value} (hl : Rep G l lv) (hc : Rep G c cv) {K : AV → AHeap → Prop}
    (k : eMakeSlice i.bytes (ofV1 z) l c h K) : Ye P G h w (Instr.makeSlice t lv cv) K := by
  unfold eMakeSlice at k
  split at k
  · rename_i kl l' kc c'
    obtain ⟨⟨q1, q2, q3, q4⟩, k⟩ := k
    simp only [Rep] at hl hc
    obtain ⟨rfl, _⟩ := hl
    obtain ⟨rfl, _⟩ := hc
    have hrun := run_make (P := P) w t e i z ht hi hz kl kc l' c' q1 q2 (by omega) (by omega)
    rw [h1, Nat.mul_one] at hrun
    have hcells : ∀ j, j < c'.toNat → (madeCells z.cells c'.toNat)[j]? = some z := fun j hj => by
      simp [madeCells, hj, cells_of_one hzo, Nat.mod_one]
    have x : ObjAt (G.add h.length (w.heap.size, 0) c'.toNat) (w.alloc (.cells (madeCells z.cells c'.toNat) e)) h.length (.cells (List.replicate c'.toNat (ofV1 z))) := by
      refine ⟨w.heap.size, 0, madeCells z.cells c'.toNat, e, 0, 0, by simp [Gh.add], ?_, by omega, ?_, ?_, ?_⟩
      · show (w.heap.push _)[w.heap.size]? = _
        simp
      · simp [Gh.add]
      · simp [Gh.add, size_madeCells]
      · intro j a ha
        have hj : j < c'.toNat := by have := (List.getElem?_eq_some_iff.1 ha).1; simpa using this
        rw [List.getElem?_replicate, if_pos hj] at ha
        cases ha
        exact ⟨z, by rw [Nat.zero_add]; exact hcells j hj, rep_ofV1 _ z hzo⟩
    obtain ⟨s', ev⟩ := sim_push s (.cells (madeCells z.cells c'.toNat) e) _ c'.toNat x
    refine ⟨_, _, _, _, _, hrun, ?_, k, s', ev⟩
    simp only [Rep]
    exact ⟨w.heap.size, 0, c'.toNat, 0, by simp [Gh.add], by simp [Gh.add], by omega, fun _ => rfl, rfl⟩
  · exact k.elim

/-! ### Is it nil? -/
def pIsNilM (op : BinOp) (x : AV) (K : AV → Prop) : Prop :=
  match op, x with
  | .eql, .map _ => K (B false)
  | .neq, .map _ => K (B true)
  | .eql, .lit (.map none) => K (B true)
  | .neq, .lit (.map none) => K (B false)
  | _, _ => False
def pIsNilI (op : BinOp) (x : AV) (K : AV → Prop) : Prop :=
  match op, x with
  | .eql, .iface _ _ => K (B false)
  | .neq, .iface _ _ => K (B true)
  | .eql, .lit .nilIface => K (B true)
  | .neq, .lit .nilIface => K (B false)
  | _, _ => False
def pIsNilF (op : BinOp) (x : AV) (K : AV → Prop) : Prop :=
  match op, x with
  | .eql, .fn _ _ _ => K (B false)
  | .neq, .fn _ _ _ => K (B true)
  | .eql, .lit .nilFunc => K (B true)
  | .neq, .lit .nilFunc => K (B false)
  | _, _ => False
def nilK (op : BinOp) (b : Bool) (K : AV → Prop) : Prop := match op with | .eql => K (B b) | .neq => K (B !b) | _ => False
/-- A row of none may be nil, or may not. -/
def pIsNilS (op : BinOp) (x : AV) (K : AV → Prop) : Prop :=
  match x with
  | .sl _ _ _ _ => nilK op false K
  | .full n _ => if n = 0 then nilK op true K ∧ nilK op false K else nilK op false K
  | .snap n _ => if n = 0 then nilK op true K ∧ nilK op false K else nilK op false K
  | _ => False

theorem repB (G : Gh) (b : Bool) : Rep G (B b) (.bool b) := by simp [Rep, Value.oneCell']
theorem eq_of_d {t : TypeId} {x y : Value} {b : Bool} (h : ∀ d, (Op.equalIn (d + 1) t x y).run P w = .ok b w) : (Op.equal t x y).run P w = .ok b w := h 9999
/-- A comparison with what is nil. -/
theorem nil_cmp {op : BinOp} {t : TypeId} {xo : Operand} {c x : Value} {b : Bool} {K : AV → Prop} (hg : eqGuard op t xo (.const c) x c = pure ())
    (h1 : binOp .eql t x c = (do pure (.bool (← Op.equal t x c)))) (h2 : binOp .neq t x c = (do pure (.bool (!(← Op.equal t x c))))) (he : (Op.equal t x c).run P w = .ok b w)
    (k : nilK op b K) : Yl P G w (do eqGuard op t xo (.const c) x c; binOp op t x c) K := by
  rw [hg]
  cases op <;> simp only [nilK] at k
  case eql => exact ⟨_, .bool b, by simp [h1, he], repB G _, k⟩
  case neq => exact ⟨_, .bool (!b), by simp [h2, he], repB G _, k⟩

theorem pIsNilM_ok {t kt et : TypeId} (ht : P.underlying t = some (.map kt et)) {op : BinOp} {xo : Operand} {x : AV} {v : Value} (hx : Rep G x v) {K : AV → Prop} (k : pIsNilM op x K) : Yl P G w (do eqGuard op t xo (.const (.map none)) v (.map none); binOp op t v (.map none)) K := by
  have hg : ∀ r, eqGuard op t xo (.const (.map none)) (.map r) (.map none) = pure () := fun r => by unfold eqGuard; split <;> rfl
  unfold pIsNilM at k
  split at k <;> try simp only [Rep] at hx
  · obtain ⟨b, _, rfl⟩ := hx
    exact nil_cmp (b := false) (hg _) rfl rfl (eq_of_d fun d => by simp [Op.equalIn, run_underlying ht]) k
  · obtain ⟨b, _, rfl⟩ := hx
    exact nil_cmp (b := false) (hg _) rfl rfl (eq_of_d fun d => by simp [Op.equalIn, run_underlying ht]) k
  · obtain ⟨rfl, _⟩ := hx
    exact nil_cmp (b := true) (hg _) rfl rfl (eq_of_d fun d => by simp [Op.equalIn, run_underlying ht]) k
  · obtain ⟨rfl, _⟩ := hx
    exact nil_cmp (b := true) (hg _) rfl rfl (eq_of_d fun d => by simp [Op.equalIn, run_underlying ht]) k
  · exact k.elim
theorem pIsNilI_ok {t : TypeId} {ms : Array (String × TypeId)} (ht : P.underlying t = some (.interface ms)) {op : BinOp} {xo : Operand} {x : AV} {v : Value} (hx : Rep G x v) {K : AV → Prop} (k : pIsNilI op x K) : Yl P G w (do eqGuard op t xo (.const .nilIface) v .nilIface; binOp op t v .nilIface) K := by
  have hg : ∀ u y, eqGuard op t xo (.const .nilIface) (.iface u y) .nilIface = pure () := fun u y => by unfold eqGuard; split <;> rfl
  have hg2 : eqGuard op t xo (.const .nilIface) .nilIface .nilIface = pure () := by
    unfold eqGuard
    split <;> first | rfl | (simp; done)
  unfold pIsNilI at k
  split at k <;> try simp only [Rep] at hx
  · obtain ⟨y, rfl, _⟩ := hx
    exact nil_cmp (b := false) (hg _ _) rfl rfl (eq_of_d fun d => by simp [Op.equalIn, run_underlying ht]) k
  · obtain ⟨y, rfl, _⟩ := hx
    exact nil_cmp (b := false) (hg _ _) rfl rfl (eq_of_d fun d => by simp [Op.equalIn, run_underlying ht]) k
  · obtain ⟨rfl, _⟩ := hx
    exact nil_cmp (b := true) hg2 rfl rfl (eq_of_d fun d => by simp [Op.equalIn, run_underlying ht]) k
  · obtain ⟨rfl, _⟩ := hx
    exact nil_cmp (b := true) hg2 rfl rfl (eq_of_d fun d => by simp [Op.equalIn, run_underlying ht]) k
  · exact k.elim
theorem pIsNilF_ok {t : TypeId} {a b : Array TypeId} {c : Bool} (ht : P.underlying t = some (.func a b c)) {op : BinOp} {xo : Operand} {x : AV} {v : Value} (hx : Rep G x v) {K : AV → Prop} (k : pIsNilF op x K) : Yl P G w (do eqGuard op t xo (.const .nilFunc) v .nilFunc; binOp op t v .nilFunc) K := by
  have hg : ∀ x, eqGuard op t xo (.const .nilFunc) x .nilFunc = pure () := fun x => by unfold eqGuard; split <;> first | rfl | (split <;> first | rfl | simp_all)
  unfold pIsNilF at k
  split at k <;> try simp only [Rep] at hx
  · obtain ⟨y, z, rfl, _⟩ := hx
    exact nil_cmp (b := false) (hg _) rfl rfl (eq_of_d fun d => by simp [Op.equalIn, run_underlying ht]) k
  · obtain ⟨y, z, rfl, _⟩ := hx
    exact nil_cmp (b := false) (hg _) rfl rfl (eq_of_d fun d => by simp [Op.equalIn, run_underlying ht]) k
  · obtain ⟨rfl, _⟩ := hx
    exact nil_cmp (b := true) (hg _) rfl rfl (eq_of_d fun d => by simp [Op.equalIn, run_underlying ht]) k
  · obtain ⟨rfl, _⟩ := hx
    exact nil_cmp (b := true) (hg _) rfl rfl (eq_of_d fun d => by simp [Op.equalIn, run_underlying ht]) k
  · exact k.elim
theorem pIsNilS_ok {t e : TypeId} (ht : P.underlying t = some (.slice e)) {op : BinOp} {xo : Operand} {x : AV} {v : Value} (hx : Rep G x v) {K : AV → Prop} (k : pIsNilS op x K) : Yl P G w (do eqGuard op t xo (.const (.slice none 0 0)) v (.slice none 0 0); binOp op t v (.slice none 0 0)) K := by
  have hg : ∀ a b c, eqGuard op t xo (.const (.slice none 0 0)) (.slice a b c) (.slice none 0 0) = pure () := fun a b c => by unfold eqGuard; split <;> rfl
  have some_ok : ∀ (a : Addr) (l c : Nat), nilK op false K → Yl P G w (do eqGuard op t xo (.const (.slice none 0 0)) (.slice (some a) l c) (.slice none 0 0); binOp op t (.slice (some a) l c) (.slice none 0 0)) K := fun a l c k =>
    nil_cmp (b := false) (hg _ _ _) rfl rfl (eq_of_d fun d => by simp [Op.equalIn, run_underlying ht]) k
  have none_ok : nilK op true K → Yl P G w (do eqGuard op t xo (.const (.slice none 0 0)) (.slice none 0 0) (.slice none 0 0); binOp op t (.slice none 0 0) (.slice none 0 0)) K := fun k =>
    nil_cmp (b := true) (hg _ _ _) rfl rfl (eq_of_d fun d => by simp [Op.equalIn, run_underlying ht]) k
  unfold pIsNilS at k
  split at k <;> try simp only [Rep] at hx
  · obtain ⟨b, o, c, ad, _, _, _, _, rfl⟩ := hx; exact some_ok _ _ _ k
  · rcases hx with ⟨rfl, _, rfl⟩ | ⟨b, o, rfl, _⟩
    · rw [if_pos rfl] at k; exact none_ok k.1
    · refine some_ok _ _ _ ?_
      split at k
      · exact k.2
      · exact k
  · rcases hx with ⟨rfl, _, rfl⟩ | ⟨b, o, c, _, rfl, _⟩
    · rw [if_pos rfl] at k; exact none_ok k.1
    · refine some_ok _ _ _ ?_
      split at k
      · exact k.2
      · exact k
  · exact k.elim
end
end Go.Proofs.YtmocchnodigmlaaGreatDoor.AL
