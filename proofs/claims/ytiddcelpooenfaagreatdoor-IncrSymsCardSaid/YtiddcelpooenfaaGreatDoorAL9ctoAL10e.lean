import Derived.Test.YtiddcelpooenfaaGreatDoorAL7toAL8n
import Derived.Laws.IdiomStrings
import Derived.Laws.BytesArg
import Derived.Laws.MakeOwn
import Derived.Laws.StructEq
set_option linter.all false
set_option autoImplicit true
set_option relaxedAutoImplicit true
set_option maxRecDepth 100000
namespace Go.Proofs.YtiddcelpooenfaaGreatDoor.AL
section
variable [Tabs]
section
variable {P : Program} {G : Gh} {h : AHeap} {w : World}
def bytesOf : List AV → Option (List UInt8)
  | [] => some []
  | .lit (.int .u8 n) :: r => match bytesOf r with | some l => some (UInt8.ofNat n.toNat :: l) | none => none
  | _ => none
theorem bytesOf_rep : ∀ {xs : List AV} {vs : List Value} {l : List UInt8}, RepL G xs vs → bytesOf xs = some l → ∃ ns : List Int, vs = ns.map (Value.int .u8) ∧ l = ns.map fun n => UInt8.ofNat n.toNat
  | [], vs, l, r, h => by simp only [RepL] at r; simp only [bytesOf, Option.some.injEq] at h; subst r; subst h; exact ⟨[], rfl, rfl⟩
  | a :: xs, vs, l, r, h => by
    simp only [RepL] at r
    obtain ⟨v, ws, rfl, h1, h2⟩ := r
    unfold bytesOf at h
    split at h
    · rename_i hn; cases hn
    · rename_i n r' hn
      cases hn
      split at h
      · rename_i l' hl
        cases h
        obtain ⟨ns, rfl, rfl⟩ := bytesOf_rep h2 hl
        simp only [Rep] at h1
        exact ⟨n :: ns, by simp [h1.1], by simp⟩
      · cases h
    · cases h
def isRow : AV → Bool
  | .sl _ _ _ _ => true
  | .snap _ _ => true
  | .full _ _ => true
  | _ => false
def pBytesStr (x : AV) (h : AHeap) (K : AV → Prop) : Prop :=
  if isRow x = true then (match aElems h 1 x with
    | some (_, xs) => (match bytesOf xs with | some l => K (S ⟨l.toArray⟩) | none => False)
    | none => False) else False
theorem row_slice {x : AV} {v : Value} (hx : Rep G x v) (hr : isRow x = true) : ∃ a l c, v = .slice a l c := by
  cases x <;> simp [isRow] at hr <;> simp only [Rep] at hx
  · obtain ⟨b, o, c, ad, _, _, _, _, rfl⟩ := hx; exact ⟨_, _, _, rfl⟩
  · rcases hx with ⟨_, _, rfl⟩ | ⟨b, o, c, _, rfl, _⟩ <;> exact ⟨_, _, _, rfl⟩
  · rcases hx with ⟨_, _, rfl⟩ | ⟨b, o, rfl, _⟩ <;> exact ⟨_, _, _, rfl⟩
theorem pBytesStr_ok (s : Sim G h w) {src dst e : TypeId} (hs : P.underlying src = some (.slice e)) (he : P.underlying e = some (.int .u8)) (hd : P.underlying dst = some .string) {x : AV} {v : Value} (hx : Rep G x v) {K : AV → Prop} (k : pBytesStr x h K) :
    Yl P G w (convert src dst v) K := by
  unfold pBytesStr at k
  split at k
  · rename_i hr
    split at k
    · rename_i m xs hxs
      split at k
      · rename_i l hl
        obtain ⟨vs, q1, q2, q3, q4⟩ := aElems_ok (P := P) s hx hxs
        obtain ⟨ns, rfl, rfl⟩ := bytesOf_rep q2 hl
        obtain ⟨a, len, c, rfl⟩ := row_slice hx hr
        refine ⟨_, .string ⟨(ns.map fun n => UInt8.ofNat n.toNat).toArray⟩, ?_, by simp [Rep, Value.oneCell'], k⟩
        rw [run_convert_bytes_string w src dst e a len c hs he hd]
        have hlen : len = m := by simpa [Builtin.lenOf] using q3
        subst hlen
        cases a with
        | none =>
          have : ns = [] := by
            simp [Builtin.firstCells] at q4
            exact q4.symm ▸ rfl
          subst this
          simp [Conv.bytesToString]; rfl
        | some a =>
          have hlc : (loadCells a len).run P w = .ok (ns.map (Value.int .u8)).toArray w := by
            simpa [Builtin.firstCells] using q4
          rw [run_bytesToString w a len c ns hlc, foldl_push_bytes]
          congr 2
          apply ByteArray.ext
          simp [ByteArray.empty, ByteArray.emptyWithCapacity]
          rfl
      · exact k.elim
    · exact k.elim
  · exact k.elim
def eStrBytes (x : AV) (h : AHeap) (K : QT) : Prop :=
  match x with
  | .lit (.string s) => K (.sl h.length 0 s.size 1) (h ++ [.cells (s.data.toList.map fun b => .lit (.int .u8 b.toNat))])
  | _ => False
theorem eStrBytes_ok (s : Sim G h w) {src dst e : TypeId} (hs : P.underlying src = some .string) (hd : P.underlying dst = some (.slice e)) (he : P.underlying e = some (.int .u8)) {x : AV} {v : Value} (hx : Rep G x v) {K : QT} (k : eStrBytes x h K) :
    Ye P G h w (convert src dst v) K := by
  unfold eStrBytes at k
  split at k
  · rename_i str
    simp only [Rep] at hx
    obtain ⟨rfl, _⟩ := hx
    obtain ⟨sd, evd⟩ := s.drawn (w.drawn + 1)
    have hge : str.size ≤ grownCap w str.size 0 e := by simp only [grownCap, Question.cut]; omega
    have hrun := run_bytes_of_string (P := P) w src dst e str hs hd he
    generalize grownCap w str.size 0 e = c at hge hrun
    have hsz : (bytesRow str c).size = c := by
      have : str.data.size = str.size := rfl
      simp only [bytesRow, Array.size_append, Array.size_map, Array.size_replicate]; omega
    generalize hC : bytesRow str c = C at hrun hsz
    have x : ObjAt (G.add h.length (w.drew.heap.size, 0) c) (w.drew.alloc (.cells C e (C.size, C.size + 1))) h.length (.cells (str.data.toList.map fun b => .lit (.int .u8 b.toNat))) := by
      refine ⟨w.heap.size, 0, C, e, C.size, C.size + 1, by simp [Gh.add], ?_, by omega, ?_, ?_, ?_⟩
      · show (w.heap.push _)[w.heap.size]? = _
        simp
      · simp only [Gh.add, if_true, List.length_map, Array.length_toList]; exact hge
      · simp only [Gh.add, if_true, hsz]; omega
      · intro j a ha
        rw [List.getElem?_map] at ha
        cases hj : str.data.toList[j]? with
        | none => rw [hj] at ha; cases ha
        | some b =>
          rw [hj] at ha
          simp only [Option.map_some, Option.some.injEq] at ha
          subst ha
          have hlt : j < str.data.toList.length := (List.getElem?_eq_some_iff.1 hj).1
          refine ⟨.int .u8 b.toNat, ?_, by simp [Rep, Value.oneCell']⟩
          rw [← hC, Nat.zero_add]
          unfold bytesRow
          rw [Array.getElem?_append_left (by simpa using hlt)]
          have : str.data[j]? = some b := by simpa using hj
          simp [this]
    obtain ⟨s', ev⟩ := sim_push sd (.cells C e (C.size, C.size + 1)) _ c x
    refine ⟨_, _, _, _, _, hrun, ?_, k, s', evd.trans ev⟩
    simp only [Rep]
    exact ⟨w.heap.size, 0, c, 0, by simp [Gh.add], by simp [Gh.add], hge, fun _ => rfl, rfl⟩
  · exact k.elim
def eMakeSlice (bytes : Nat) (z l c : AV) (h : AHeap) (K : QT) : Prop :=
  match l, c with
  | .lit (.int _ l), .lit (.int _ c) => (0 ≤ l ∧ l ≤ c ∧ (bytes : Int) * c ≤ 1099511627776 ∧ c ≤ 1099511627776) ∧ K (.sl h.length 0 l.toNat 1) (h ++ [.cells (List.replicate c.toNat z)])
  | _, _ => False
theorem eMakeSlice_ok (s : Sim G h w) {t e : TypeId} {i : TypeInfo} {z : Value} (ht : P.underlying t = some (.slice e)) (hi : P.info? e = some i) (hz : i.zero = some z) (h1 : i.size = 1) (hzo : z.oneCell' = true) {l c : AV} {lv cv : Value} (hl : Rep G l lv) (hc : Rep G c cv) {K : QT}
    (k : eMakeSlice i.bytes (ofV1 z) l c h K) : Ye P G h w (Instr.makeSlice t lv cv) K := by
  unfold eMakeSlice at k
  split at k
  · rename_i kl l' kc c'
    obtain ⟨⟨q1, q2, q3, q4⟩, k⟩ := k
    simp only [Rep] at hl hc
    obtain ⟨rfl, _⟩ := hl
    obtain ⟨rfl, _⟩ := hc
    have hrun := run_make (P := P) w t e i z ht hi hz kl kc l' c' q1 q2 (by omega) (by omega)
    rw [h1, Nat.mul_one] at hrun
    have hcells : ∀ j, j < c'.toNat → (madeCells z.cells c'.toNat)[j]? = some z := fun j hj => by
      simp [madeCells, hj, cells_of_one hzo, Nat.mod_one]
    have x : ObjAt (G.add h.length (w.heap.size, 0) c'.toNat) (w.alloc (.cells (madeCells z.cells c'.toNat) e)) h.length (.cells (List.replicate c'.toNat (ofV1 z))) := by
      refine ⟨w.heap.size, 0, madeCells z.cells c'.toNat, e, 0, 0, by simp [Gh.add], ?_, by omega, ?_, ?_, ?_⟩
      · show (w.heap.push _)[w.heap.size]? = _
        simp
      · simp [Gh.add]
      · simp [Gh.add, size_madeCells]
      · intro j a ha
        have hj : j < c'.toNat := by have := (List.getElem?_eq_some_iff.1 ha).1; simpa using this
        rw [List.getElem?_replicate, if_pos hj] at ha
        cases ha
        exact ⟨z, by rw [Nat.zero_add]; exact hcells j hj, rep_ofV1 _ z hzo⟩
    obtain ⟨s', ev⟩ := sim_push s (.cells (madeCells z.cells c'.toNat) e) _ c'.toNat x
    refine ⟨_, _, _, _, _, hrun, ?_, k, s', ev⟩
    simp only [Rep]
    exact ⟨w.heap.size, 0, c'.toNat, 0, by simp [Gh.add], by simp [Gh.add], by omega, fun _ => rfl, rfl⟩
  · exact k.elim
def pIsNilM (op : BinOp) (x : AV) (K : AV → Prop) : Prop :=
  match op, x with
  | .eql, .map _ => K (B false)
  | .neq, .map _ => K (B true)
  | .eql, .lit (.map none) => K (B true)
  | .neq, .lit (.map none) => K (B false)
  | _, _ => False
def pIsNilI (op : BinOp) (x : AV) (K : AV → Prop) : Prop :=
  match op, x with
  | .eql, .iface _ _ => K (B false)
  | .neq, .iface _ _ => K (B true)
  | .eql, .lit .nilIface => K (B true)
  | .neq, .lit .nilIface => K (B false)
  | _, _ => False
def pIsNilF (op : BinOp) (x : AV) (K : AV → Prop) : Prop :=
  match op, x with
  | .eql, .fn _ _ _ => K (B false)
  | .neq, .fn _ _ _ => K (B true)
  | .eql, .lit .nilFunc => K (B true)
  | .neq, .lit .nilFunc => K (B false)
  | _, _ => False
def nilK (op : BinOp) (b : Bool) (K : AV → Prop) : Prop := match op with | .eql => K (B b) | .neq => K (B !b) | _ => False
def pIsNilS (op : BinOp) (x : AV) (K : AV → Prop) : Prop :=
  match x with
  | .sl _ _ _ _ => nilK op false K
  | .full n _ => if n = 0 then nilK op true K ∧ nilK op false K else nilK op false K
  | .snap n _ => if n = 0 then nilK op true K ∧ nilK op false K else nilK op false K
  | _ => False
theorem repB (G : Gh) (b : Bool) : Rep G (B b) (.bool b) := by simp [Rep, Value.oneCell']
theorem eq_of_d {t : TypeId} {x y : Value} {b : Bool} (h : ∀ d, (Op.equalIn (d + 1) t x y).run P w = .ok b w) : (Op.equal t x y).run P w = .ok b w := h 9999
theorem nil_cmp {op : BinOp} {t : TypeId} {xo : Operand} {c x : Value} {b : Bool} {K : AV → Prop} (hg : eqGuard op t xo (.const c) x c = pure ())
    (h1 : binOp .eql t x c = (do pure (.bool (← Op.equal t x c)))) (h2 : binOp .neq t x c = (do pure (.bool (!(← Op.equal t x c))))) (he : (Op.equal t x c).run P w = .ok b w)
    (k : nilK op b K) : Yl P G w (do eqGuard op t xo (.const c) x c; binOp op t x c) K := by
  rw [hg]
  cases op <;> simp only [nilK] at k
  case eql => exact ⟨_, .bool b, by simp [h1, he], repB G _, k⟩
  case neq => exact ⟨_, .bool (!b), by simp [h2, he], repB G _, k⟩
theorem pIsNilM_ok {t kt et : TypeId} (ht : P.underlying t = some (.map kt et)) {op : BinOp} {xo : Operand} {x : AV} {v : Value} (hx : Rep G x v) {K : AV → Prop} (k : pIsNilM op x K) : Yl P G w (do eqGuard op t xo (.const (.map none)) v (.map none); binOp op t v (.map none)) K := by
  have hg : ∀ r, eqGuard op t xo (.const (.map none)) (.map r) (.map none) = pure () := fun r => by unfold eqGuard; split <;> rfl
  unfold pIsNilM at k
  split at k <;> try simp only [Rep] at hx
  · obtain ⟨b, _, rfl⟩ := hx
    exact nil_cmp (b := false) (hg _) rfl rfl (eq_of_d fun d => by simp [Op.equalIn, run_underlying ht]) k
  · obtain ⟨b, _, rfl⟩ := hx
    exact nil_cmp (b := false) (hg _) rfl rfl (eq_of_d fun d => by simp [Op.equalIn, run_underlying ht]) k
  · obtain ⟨rfl, _⟩ := hx
    exact nil_cmp (b := true) (hg _) rfl rfl (eq_of_d fun d => by simp [Op.equalIn, run_underlying ht]) k
  · obtain ⟨rfl, _⟩ := hx
    exact nil_cmp (b := true) (hg _) rfl rfl (eq_of_d fun d => by simp [Op.equalIn, run_underlying ht]) k
  · exact k.elim
theorem pIsNilI_ok {t : TypeId} {ms : Array (String × TypeId)} (ht : P.underlying t = some (.interface ms)) {op : BinOp} {xo : Operand} {x : AV} {v : Value} (hx : Rep G x v) {K : AV → Prop} (k : pIsNilI op x K) : Yl P G w (do eqGuard op t xo (.const .nilIface) v .nilIface; binOp op t v .nilIface) K := by
  have hg : ∀ u y, eqGuard op t xo (.const .nilIface) (.iface u y) .nilIface = pure () := fun u y => by unfold eqGuard; split <;> rfl
  have hg2 : eqGuard op t xo (.const .nilIface) .nilIface .nilIface = pure () := by
    unfold eqGuard
    split <;> first | rfl | (simp; done)
  unfold pIsNilI at k
  split at k <;> try simp only [Rep] at hx
  · obtain ⟨y, rfl, _⟩ := hx
    exact nil_cmp (b := false) (hg _ _) rfl rfl (eq_of_d fun d => by simp [Op.equalIn, run_underlying ht]) k
  · obtain ⟨y, rfl, _⟩ := hx
    exact nil_cmp (b := false) (hg _ _) rfl rfl (eq_of_d fun d => by simp [Op.equalIn, run_underlying ht]) k
  · obtain ⟨rfl, _⟩ := hx
    exact nil_cmp (b := true) hg2 rfl rfl (eq_of_d fun d => by simp [Op.equalIn, run_underlying ht]) k
  · obtain ⟨rfl, _⟩ := hx
    exact nil_cmp (b := true) hg2 rfl rfl (eq_of_d fun d => by simp [Op.equalIn, run_underlying ht]) k
  · exact k.elim
theorem pIsNilF_ok {t : TypeId} {a b : Array TypeId} {c : Bool} (ht : P.underlying t = some (.func a b c)) {op : BinOp} {xo : Operand} {x : AV} {v : Value} (hx : Rep G x v) {K : AV → Prop} (k : pIsNilF op x K) : Yl P G w (do eqGuard op t xo (.const .nilFunc) v .nilFunc; binOp op t v .nilFunc) K := by
  have hg : ∀ x, eqGuard op t xo (.const .nilFunc) x .nilFunc = pure () := fun x => by unfold eqGuard; split <;> first | rfl | (split <;> first | rfl | simp_all)
  unfold pIsNilF at k
  split at k <;> try simp only [Rep] at hx
  · obtain ⟨y, z, rfl, _⟩ := hx
    exact nil_cmp (b := false) (hg _) rfl rfl (eq_of_d fun d => by simp [Op.equalIn, run_underlying ht]) k
  · obtain ⟨y, z, rfl, _⟩ := hx
    exact nil_cmp (b := false) (hg _) rfl rfl (eq_of_d fun d => by simp [Op.equalIn, run_underlying ht]) k
  · obtain ⟨rfl, _⟩ := hx
    exact nil_cmp (b := true) (hg _) rfl rfl (eq_of_d fun d => by simp [Op.equalIn, run_underlying ht]) k
  · obtain ⟨rfl, _⟩ := hx
    exact nil_cmp (b := true) (hg _) rfl rfl (eq_of_d fun d => by simp [Op.equalIn, run_underlying ht]) k
  · exact k.elim
theorem pIsNilS_ok {t e : TypeId} (ht : P.underlying t = some (.slice e)) {op : BinOp} {xo : Operand} {x : AV} {v : Value} (hx : Rep G x v) {K : AV → Prop} (k : pIsNilS op x K) : Yl P G w (do eqGuard op t xo (.const (.slice none 0 0)) v (.slice none 0 0); binOp op t v (.slice none 0 0)) K := by
  have hg : ∀ a b c, eqGuard op t xo (.const (.slice none 0 0)) (.slice a b c) (.slice none 0 0) = pure () := fun a b c => by unfold eqGuard; split <;> rfl
  have some_ok : ∀ (a : Addr) (l c : Nat), nilK op false K → Yl P G w (do eqGuard op t xo (.const (.slice none 0 0)) (.slice (some a) l c) (.slice none 0 0); binOp op t (.slice (some a) l c) (.slice none 0 0)) K := fun a l c k =>
    nil_cmp (b := false) (hg _ _ _) rfl rfl (eq_of_d fun d => by simp [Op.equalIn, run_underlying ht]) k
  have none_ok : nilK op true K → Yl P G w (do eqGuard op t xo (.const (.slice none 0 0)) (.slice none 0 0) (.slice none 0 0); binOp op t (.slice none 0 0) (.slice none 0 0)) K := fun k =>
    nil_cmp (b := true) (hg _ _ _) rfl rfl (eq_of_d fun d => by simp [Op.equalIn, run_underlying ht]) k
  unfold pIsNilS at k
  split at k <;> try simp only [Rep] at hx
  · obtain ⟨b, o, c, ad, _, _, _, _, rfl⟩ := hx; exact some_ok _ _ _ k
  · rcases hx with ⟨rfl, _, rfl⟩ | ⟨b, o, rfl, _⟩
    · rw [if_pos rfl] at k; exact none_ok k.1
    · refine some_ok _ _ _ ?_
      split at k
      · exact k.2
      · exact k
  · rcases hx with ⟨rfl, _, rfl⟩ | ⟨b, o, c, _, rfl, _⟩
    · rw [if_pos rfl] at k; exact none_ok k.1
    · refine some_ok _ _ _ ?_
      split at k
      · exact k.2
      · exact k
  · exact k.elim
end
end
section
variable [Tabs]
section
variable {P : Program} {G : Gh} {h : AHeap} {w : World}
def sEqK : TypeDesc → AV → AV → Option Bool
  | .bool, .lit (.bool a), .lit (.bool b) => some (a == b)
  | .int _, .lit (.int j a), .lit (.int k b) => if j = k then some (a == b) else none
  | .string, .lit (.string a), .lit (.string b) => some (a == b)
  | _, _, _ => none
def eqCells : List TypeDesc → List AV → List AV → Option Bool
  | [], [], [] => some true
  | d :: ds, a :: az, b :: bs => match sEqK d a b with
    | some x => (match eqCells ds az bs with | some y => some (x && y) | none => none)
    | none => none
  | _, _, _ => none
def pEqS (op : BinOp) (ds : List TypeDesc) (x y : AV) (K : AV → Prop) : Prop :=
  match x, y with
  | .agg az, .agg bs => (match eqCells ds az bs with | some b => nilK op b K | none => False)
  | _, _ => False
def flatS (P : Program) : List Field → Nat → Option (List TypeDesc)
  | [], _ => some []
  | f :: fs, k => if (f.offset == k && f.name != "_") = true then (match P.underlying f.type with
    | some .bool => (flatS P fs (k + 1)).map (.bool :: ·)
    | some (.int j) => (flatS P fs (k + 1)).map (.int j :: ·)
    | some .string => (flatS P fs (k + 1)).map (.string :: ·)
    | _ => none) else none
theorem sEqK_ok {d : TypeDesc} {a b : AV} {x y : Value} {r : Bool} (hx : Rep G a x) (hy : Rep G b y) (h : sEqK d a b = some r) {t : TypeId} (ht : P.underlying t = some d) (n : Nat) : (Op.equalIn (n + 1) t x y).run P w = .ok r w := by
  unfold sEqK at h
  split at h
  · simp only [Rep] at hx hy
    obtain ⟨rfl, _⟩ := hx
    obtain ⟨rfl, _⟩ := hy
    cases h
    simp [Op.equalIn, run_underlying ht]
  · simp only [Rep] at hx hy
    obtain ⟨rfl, _⟩ := hx
    obtain ⟨rfl, _⟩ := hy
    split at h
    · rename_i hk
      cases h
      subst hk
      simp [Op.equalIn, run_underlying ht]
    · cases h
  · simp only [Rep] at hx hy
    obtain ⟨rfl, _⟩ := hx
    obtain ⟨rfl, _⟩ := hy
    cases h
    simp [Op.equalIn, run_underlying ht]
  · cases h
theorem part_one {t : TypeId} {d : TypeDesc} (ht : P.underlying t = some d) (hd : isAggD d = false) {cs : Array Value} {k : Nat} {v : Value} (h : cs[k]? = some v) : (part t cs k).run P w = .ok v w := by
  simp [part, run_isAgg ht, hd, h]
theorem eqCells_ok (n : Nat) : ∀ (fs : List Field) (k : Nat) (ds : List TypeDesc) (az bs : List AV) (xs ys : Array Value) (r : Bool), flatS P fs k = some ds → RepL G az (xs.toList.drop k) → RepL G bs (ys.toList.drop k) → eqCells ds az bs = some r →
    (Op.eqFields (n + 1) xs ys fs).run P w = .ok r w
  | [], k, ds, az, bs, xs, ys, r, hf, hx, hy, h => by
    simp only [flatS, Option.some.injEq] at hf
    subst hf
    unfold eqCells at h
    split at h
    · cases h; simp [Op.eqFields]
    · rename_i hn; cases hn
    · cases h
  | f :: fs, k, ds, az, bs, xs, ys, r, hf, hx, hy, h => by
    simp only [flatS] at hf
    split at hf
    · rename_i hc
      simp only [Bool.and_eq_true, beq_iff_eq, bne_iff_ne, ne_eq] at hc
      have key : ∀ (d : TypeDesc), P.underlying f.type = some d → isAggD d = false → (flatS P fs (k + 1)).map (d :: ·) = some ds → (Op.eqFields (n + 1) xs ys (f :: fs)).run P w = .ok r w := by
        intro d hd hag hm
        cases hfs : flatS P fs (k + 1) with
        | none => rw [hfs] at hm; cases hm
        | some ds' =>
          rw [hfs] at hm
          simp only [Option.map_some, Option.some.injEq] at hm
          subst hm
          unfold eqCells at h
          split at h
          · rename_i hn; cases hn
          · rename_i d' ds2 a az' b bs' hn
            cases hn
            split at h
            · rename_i x hx1
              split at h
              · rename_i y hy1
                cases h
                simp only [RepL] at hx hy
                obtain ⟨v, vs, e1, r1, r2⟩ := hx
                obtain ⟨u, us, e2, r3, r4⟩ := hy
                have hv : xs[k]? = some v := by have := congrArg (·[0]?) e1; simpa using this
                have hu : ys[k]? = some u := by have := congrArg (·[0]?) e2; simpa using this
                have hvs : vs = xs.toList.drop (k + 1) := by have := congrArg List.tail e1; simpa using this.symm
                have hus : us = ys.toList.drop (k + 1) := by have := congrArg List.tail e2; simpa using this.symm
                have ih := eqCells_ok n fs (k + 1) ds' az' bs' xs ys y hfs (hvs ▸ r2) (hus ▸ r4) hy1
                simp only [Op.eqFields, Sem.run_bind, Sem.run_ite, hc.1]
                rw [if_pos (by simpa using hc.2)]
                simp only [part_one hd hag hv, part_one hd hag hu, Result.andThen_ok, sEqK_ok r1 r3 hx1 hd n]
                cases x
                · simp
                · simpa using ih
              · cases h
            · cases h
          · cases h
      split at hf
      · exact key _ ‹_› rfl hf
      · exact key _ ‹_› rfl hf
      · exact key _ ‹_› rfl hf
      · cases hf
    · cases hf
theorem pEqS_ok {t : TypeId} {fs : Array Field} {ds : List TypeDesc} (ht : P.underlying t = some (.struct fs)) (hf : flatS P fs.toList 0 = some ds) (hp : P.stoodInHeld t = false) (hm : P.eqGuardType P.depth t = false) {op : BinOp} {xo yo : Operand} {x y : AV} {a b : Value} (hx : Rep G x a) (hy : Rep G y b)
    {K : AV → Prop} (k : pEqS op ds x y K) : Yl P G w (do eqGuard op t xo yo a b; binOp op t a b) K := by
  unfold pEqS at k
  split at k
  · rename_i az bs
    split at k
    · rename_i r hr
      simp only [Rep] at hx hy
      obtain ⟨vs, rfl, hx⟩ := hx
      obtain ⟨us, rfl, hy⟩ := hy
      have hfo : P.fieldsOf t = fs := by simp [Program.fieldsOf, ht]
      have he : ∀ n, (Op.equalIn (n + 2) t (.agg vs.toArray) (.agg us.toArray)).run P w = .ok r w := fun n => by
        rw [run_equalIn_struct w (n + 1) t _ _ (by rw [hfo]; exact ht) hp, hfo]
        exact eqCells_ok n _ 0 ds az bs _ _ r hf (by simpa using hx) (by simpa using hy) hr
      have hg := run_eqGuard_agg (P := P) w op t xo yo vs.toArray us.toArray hm
      cases op <;> simp only [nilK] at k
      case eql => exact ⟨_, .bool r, by rw [Sem.run_bind, hg, Result.andThen_ok, run_eql_struct, he 9998]; rfl, repB G _, k⟩
      case neq => exact ⟨_, .bool (!r), by rw [Sem.run_bind, hg, Result.andThen_ok, run_neq_struct, he 9998]; rfl, repB G _, k⟩
    · exact k.elim
  · exact k.elim
end
end
section
variable [Tabs]
def pLenS (v : AV) (K : AV → Prop) : Prop := match v with | .lit (.string s) => K (I s.size) | _ => False
def pLenL (v : AV) (K : AV → Prop) : Prop := match v with | .sl _ _ len _ => K (I len) | .snap n _ => K (I n) | .full n _ => K (I n) | _ => False
def pLenM (v : AV) (h : AHeap) (K : AV → Prop) : Prop := match v with | .map i => (match h[i]? with | some (.amap es _) => K (I es.length) | _ => False) | _ => False
def eBox (v : AV) (h : AHeap) (K : QT) : Prop := v.isTup = false ∧ eNew v.cells h K
structure qBin (op : BinOp) (x y : AV) (K : AV → Prop) : Prop where
  mk :: (out : pBin op x y K)
structure qBinB (op : BinOp) (x y : AV) (K : AV → Prop) : Prop where
  mk :: (out : pBinB op x y K)
structure qBinP (op : BinOp) (x y : AV) (K : AV → Prop) : Prop where
  mk :: (out : pBinP op x y K)
structure qUn (op : UnOp) (x : AV) (K : AV → Prop) : Prop where
  mk :: (out : pUn op x K)
structure qConvII (d : IntKind) (x : AV) (K : AV → Prop) : Prop where
  mk :: (out : pConvII d x K)
structure qConvIF (d : FloatKind) (x : AV) (K : AV → Prop) : Prop where
  mk :: (out : pConvIF d x K)
structure qConvSS (x : AV) (K : AV → Prop) : Prop where
  mk :: (out : pConvSS x K)
structure qNil (x : AV) (K : AV → Prop) : Prop where
  mk :: (out : pNil x K)
structure qFieldAddr (n : Nat) (x : AV) (K : AV → Prop) : Prop where
  mk :: (out : pFieldAddr n x K)
structure qLoadA (n : Nat) (x : AV) (h : AHeap) (K : AV → Prop) : Prop where
  mk :: (out : pLoadA n x h K)
structure qLoad1 (x : AV) (h : AHeap) (K : AV → Prop) : Prop where
  mk :: (out : pLoad1 x h K)
structure qPartA (o n : Nat) (x : AV) (K : AV → Prop) : Prop where
  mk :: (out : pPartA o n x K)
structure qPart1 (o : Nat) (x : AV) (K : AV → Prop) : Prop where
  mk :: (out : pPart1 o x K)
structure qIndexS (x i : AV) (K : AV → Prop) : Prop where
  mk :: (out : pIndexS x i K)
structure qIndexAddr (n : Nat) (x i : AV) (K : AV → Prop) : Prop where
  mk :: (out : pIndexAddr n x i K)
structure qIndexAddrA (m n : Nat) (x i : AV) (K : AV → Prop) : Prop where
  mk :: (out : pIndexAddrA m n x i K)
structure qSliceS (x : AV) (a b : Option AV) (K : AV → Prop) : Prop where
  mk :: (out : pSliceS x a b K)
structure qSliceL (n : Nat) (x : AV) (a b : Option AV) (K : AV → Prop) : Prop where
  mk :: (out : pSliceL n x a b K)
structure qSliceZ (x : AV) (K : AV → Prop) : Prop where
  mk :: (out : pSliceZ x K)
structure qLenS (x : AV) (K : AV → Prop) : Prop where
  mk :: (out : pLenS x K)
structure qLenL (x : AV) (K : AV → Prop) : Prop where
  mk :: (out : pLenL x K)
structure qLenM (x : AV) (h : AHeap) (K : AV → Prop) : Prop where
  mk :: (out : pLenM x h K)
structure qExtract (i : Nat) (x : AV) (K : AV → Prop) : Prop where
  mk :: (out : pExtract i x K)
structure qMax (x y : AV) (K : AV → Prop) : Prop where
  mk :: (out : pMax x y K)
structure qMin (x y : AV) (K : AV → Prop) : Prop where
  mk :: (out : pMin x y K)
structure qIface (t : TypeId) (x : AV) (K : AV → Prop) : Prop where
  mk :: (out : pIface t x K)
structure qBuild (z : List AV) (ps : List (Nat × Nat × AV)) (K : AV → Prop) : Prop where
  mk :: (out : pBuild z ps K)
structure qBuildSlice (n m : Nat) (vs : List AV) (K : AV → Prop) : Prop where
  mk :: (out : pBuildSlice n m vs K)
structure qNew (cs : List AV) (h : AHeap) (K : QT) : Prop where
  mk :: (out : eNew cs h K)
structure qBox (v : AV) (h : AHeap) (K : QT) : Prop where
  mk :: (out : eBox v h K)
structure qStore (n : Nat) (x y : AV) (h : AHeap) (K : AHeap → Prop) : Prop where
  mk :: (out : eStore n x y h K)
structure qAppend (n m : Nat) (x y : AV) (h : AHeap) (K : QT) : Prop where
  mk :: (out : eAppend n m x y h K)
end
section
variable [Tabs]
section
variable {P : Program} {G : Gh} {h : AHeap} {w : World}
def UpV (P : Program) (N : Value → World → Prop) : Result Next → Prop
  | .ok (.value v) w' => N v w'
  | .ok .skip w' => N undef w'
  | .ok (.enter f args) w' => Calls P f args w' fun e w'' => ∃ v, e = .returned v ∧ N v w''
  | _ => False
theorem upon_of_upV {o : Oper} {a : Act} {next : Act → World → Prop} {Q : Exit → Act → World → Prop} {r : Result Next} (k : UpV P (fun v w' => next (a.put o.dst v) w') r) : o.upon P a next Q r := by
  unfold UpV at k
  split at k
  · exact k
  · exact k
  · refine Calls.mono k fun e w'' ⟨v, he, hn⟩ => ?_
    subst he
    exact hn
  · exact k.elim
def N0 (G : Gh) (h : AHeap) (w : World) (K : QT) (v : Value) (w' : World) : Prop := ∃ r h' G', Rep G' r v ∧ K r h' ∧ Sim G' h' w' ∧ Evo G h w G' h' w'
theorem upV_of_yl (s : Sim G h w) {m : Sem Value} {K : QT} (k : Yl P G w m fun r => K r h) : UpV P (N0 G h w K) ((do pure (.value (← m)) : Sem Next).run P w) := by
  obtain ⟨r, v, h1, h2, h3⟩ := k
  simp only [Sem.run_bind, h1, Result.andThen_ok, Sem.run_pure]
  exact ⟨r, h, G, h2, h3, s, Evo.refl _ _ _⟩
theorem upV_of_ye {m : Sem Value} {K : QT} (k : Ye P G h w m K) : UpV P (N0 G h w K) ((do pure (.value (← m)) : Sem Next).run P w) := by
  obtain ⟨r, v, h', G', w', h1, h2, h3, h4, h5⟩ := k
  simp only [Sem.run_bind, h1, Result.andThen_ok, Sem.run_pure]
  exact ⟨r, h', G', h2, h3, h4, h5⟩
def HasBody (P : Program) (f : FuncId) : Prop := ∃ fn, P.funcs[f]? = some fn ∧ (fn.name == "runtime.NumGoroutine") = false ∧ fn.body.isNone = false
structure ACall (P : Program) (f : FuncId) (args : List AV) (h : AHeap) (K : QT) : Prop where
  body : HasBody P f
  calls : ACalls P f args h K
def ACallV (P : Program) (v : AV) (args : List AV) (h : AHeap) (K : QT) : Prop :=
  match v with
  | .fn (.func f) fi ca => ACall P f (fi ++ args ++ ca) h K
  | _ => False
theorem ACall.mono {f : FuncId} {args : List AV} {K K' : QT} (c : ACall P f args h K) (hk : ∀ r h', K r h' → K' r h') : ACall P f args h K' := ⟨c.1, c.2.mono hk⟩
theorem call_ok (s : Sim G h w) {v : AV} {args : List AV} {x : Value} {ys : Array Value} {K : QT} (hx : Rep G v x) (hy : RepL G args ys.toList) (k : ACallV P v args h K) :
    UpV P (N0 G h w K) ((do let d ← Deferred.ofValue x ys; invoke d.target d.args : Sem Next).run P w) := by
  unfold ACallV at k
  split at k
  · rename_i f fi ca
    obtain ⟨⟨fn, h1, h2, h3⟩, k⟩ := k
    simp only [Rep] at hx
    obtain ⟨vs, ws, rfl, hv, hw⟩ := hx
    simp only [Deferred.ofValue, Sem.run_bind, Sem.run_pure, Result.andThen_ok, invoke, callFunc, run_program, h1, h2, h3, Bool.false_eq_true, if_false]
    have := k G w _ s ((hv.append hy).append hw)
    have e : (vs ++ ys.toList ++ ws).toArray = vs.toArray ++ ys ++ ws.toArray := by
      apply Array.toList_inj.1; simp
    rw [e] at this
    exact this.mono fun e w'' ⟨r, v, h', G', a, b, c, d, ev⟩ => ⟨v, a, r, h', G', b, c, d, ev⟩
  · exact k.elim
def withO2 (a b : Option AV) (K : AV → AV → Prop) : Prop := withO a fun x => withO b fun y => K x y
def withL (a : Option (List AV)) (K : List AV → Prop) : Prop := match a with | some l => K l | none => False
def optO (env : Env) : Option Operand → Option (Option AV)
  | none => some none
  | some x => match opv env x with | some v => some (some v) | none => none
def withP (a : Option (Option AV)) (K : Option AV → Prop) : Prop := match a with | some l => K l | none => False
def aBuild (P : Program) (t : TypeId) (is : List Nat) (vs : List AV) (K : AV → Prop) : Prop :=
  match P.underlying t, P.info? t with
  | some (.struct fs), some i => (match i.zero, fieldPlaces P fs.toList with
    | some z, some l => if okV z then (match placed (fun j => l[j]?) (is.zip vs) with | some qs => qBuild (ofV z).cells qs K | none => False) else False
    | _, _ => False)
  | _, _ => False
def aBuildSlice (P : Program) (t : TypeId) (n : Nat) (is : List Nat) (vs : List AV) (K : AV → Prop) : Prop :=
  match P.underlying t with
  | some (.slice e) => (match P.info? e with
    | some i => (match i.zero with
      | some _ => if (is == List.range n && decide (n * i.size ≤ 16777216)) = true then qBuildSlice n i.size vs K else False
      | none => False)
    | none => False)
  | _ => False
def aLoad (P : Program) (t : TypeId) (v : AV) (h : AHeap) (K : AV → Prop) : Prop :=
  match P.underlying t, P.info? t with
  | some d, some i => if isAggD d = true then qLoadA i.size v h K else qLoad1 v h K
  | _, _ => False
def aBin (P : Program) (op : BinOp) (t : TypeId) (x y : AV) (K : AV → Prop) : Prop :=
  match P.underlying t with
  | some .bool => qBinB op x y K
  | some (.pointer _) => qBinP op x y K
  | some (.int _) => qBin op x y K
  | some .string => qBin op x y K
  | some (.float _) => qBin op x y K
  | _ => False
def aConv (P : Program) (s d : TypeId) (x : AV) (K : AV → Prop) : Prop :=
  match P.underlying s, P.underlying d with
  | some (.int _), some (.int k) => qConvII k x K
  | some (.int _), some (.float k) => qConvIF k x K
  | some .string, some .string => qConvSS x K
  | _, _ => False
def aSlice (P : Program) (t : TypeId) (x : AV) (lo hi mx : Option AV) (K : AV → Prop) : Prop :=
  match P.underlying t, mx with
  | some .string, none => qSliceS x lo hi K
  | some (.slice e), none => (match P.info? e with | some i => qSliceL i.size x lo hi K | none => False)
  | some (.slice e), some (.lit (.int _ 0)) => (match P.info? e, lo, hi with | some _, none, some (.lit (.int _ 0)) => qSliceZ x K | _, _, _ => False)
  | _, _ => False
def aFieldAddr (P : Program) (t : TypeId) (x : AV) (f : Nat) (K : AV → Prop) : Prop :=
  match P.underlying t with
  | some (.struct fs) => (match fs[f]? with
    | some fd => (match P.info? fd.type with | some i => if i.size = 0 then False else qFieldAddr fd.offset x K | none => False)
    | none => False)
  | _ => False
def aPart (P : Program) (t : TypeId) (off : Nat) (x : AV) (K : AV → Prop) : Prop :=
  match P.underlying t, P.info? t with
  | some d, some i => if isAggD d = true then qPartA off i.size x K else qPart1 off x K
  | _, _ => False
def aField (P : Program) (t : TypeId) (x : AV) (f : Nat) (K : AV → Prop) : Prop :=
  match P.underlying t with
  | some (.struct fs) => (match fs[f]? with | some fd => aPart P fd.type fd.offset x K | none => False)
  | _ => False
def aIndexAddr (P : Program) (t : TypeId) (x i : AV) (K : AV → Prop) : Prop :=
  match P.underlying t with
  | some (.slice e) => (match P.info? e with | some ei => qIndexAddr ei.size x i K | none => False)
  | some (.array n e) => (match P.info? e with | some ei => qIndexAddrA n ei.size x i K | none => False)
  | _ => False
def aIndex (P : Program) (t : TypeId) (x i : AV) (K : AV → Prop) : Prop :=
  match P.underlying t with
  | some .string => qIndexS x i K
  | _ => False
def aLen (P : Program) (t : TypeId) (v : AV) (h : AHeap) (K : AV → Prop) : Prop :=
  match P.underlying t with
  | some .string => qLenS v K
  | some (.slice _) => qLenL v K
  | some (.map _ _) => qLenM v h K
  | _ => False
theorem aLen_ok {t : TypeId} {v : AV} {K : AV → Prop} (k : aLen P t v h K) : ∃ d, P.underlying t = some d ∧ fitsD d v = true ∧ pLen v h K := by
  unfold aLen at k
  split at k
  · refine ⟨_, ‹_›, ?_⟩
    replace k := k.out; unfold pLenS at k; split at k
    · exact ⟨rfl, k⟩
    · exact k.elim
  · refine ⟨_, ‹_›, ?_⟩
    replace k := k.out; unfold pLenL at k; split at k
    · exact ⟨rfl, k⟩
    · exact ⟨rfl, k⟩
    · exact ⟨rfl, k⟩
    · exact k.elim
  · refine ⟨_, ‹_›, ?_⟩
    replace k := k.out; unfold pLenM at k; split at k
    · exact ⟨rfl, k⟩
    · exact k.elim
  · exact k.elim
def appOk (i : TypeInfo) (d2 : TypeDesc) : Bool :=
  (match i.zero with | some z => z.cells.size == i.size | none => false) && decide (0 < i.bytes) && (match d2 with | .int _ => false | _ => true)
def aAppend (P : Program) (t t2 : TypeId) (x y : AV) (h : AHeap) (K : QT) : Prop :=
  match P.underlying t, P.underlying t2 with
  | some (.slice e), some d2 => (match P.info? e with
    | some i => if appOk i d2 = true then qAppend i.size i.bytes x y h K else False
    | none => False)
  | _, _ => False
def aNew (P : Program) (t : TypeId) (h : AHeap) (K : QT) : Prop :=
  match P.info? t with
  | some i => (match i.zero with | some z => if okV z = true then qNew (ofV z).cells h K else False | none => False)
  | none => False
def aStore (P : Program) (t : TypeId) (x u : AV) (h : AHeap) (K : AHeap → Prop) : Prop :=
  match P.info? t with
  | some i => qStore i.size x u h K
  | none => False
def aIface (P : Program) (t : TypeId) (x : AV) (K : AV → Prop) : Prop :=
  match P.underlying t with
  | some (.interface _) => False
  | some _ => qIface t x K
  | none => False
def aop1 (P : Program) (env : Env) (h : AHeap) (o : Oper) (K : QT) : Prop :=
  match o.op with
  | .move x => withO (opv env x) fun v => K v h
  | .assign x => withO (opv env x) fun v => K v h
  | .pick c a b => withO (opv env c) fun cv => withO2 (opv env a) (opv env b) fun av bv => ifB cv (K av h) (K bv h)
  | .alloc e => aNew P e h K
  | .box _ x => withO (opv env x) fun v => qBox v h K
  | .build t ps => withL (opvs env (ps.toList.map (·.2))) fun vs => aBuild P t (ps.toList.map (·.1)) vs fun r => K r h
  | .buildSlice t n ps => withL (opvs env (ps.toList.map (·.2))) fun vs => aBuildSlice P t n (ps.toList.map (·.1)) vs fun r => K r h
  | .load t x => withO (opv env x) fun v => aLoad P t v h fun r => K r h
  | .store t x u => withO2 (opv env x) (opv env u) fun v y => aStore P t v y h fun h' => K (.tup []) h'
  | .nilCheck x => withO (opv env x) fun v => qNil v fun r => K r h
  | .binOp op t x y _ => withO2 (opv env x) (opv env y) fun a b => aBin P op t a b fun r => K r h
  | .unOp op _ x => withO (opv env x) fun a => qUn op a fun r => K r h
  | .convert s d x => withO (opv env x) fun a => aConv P s d a fun r => K r h
  | .makeInterface t x => withO (opv env x) fun a => aIface P t a fun r => K r h
  | .makeFunc f fi ca => withL (opvs env fi.toList) fun vs => withL (opvs env ca.toList) fun ws => K (.fn f vs ws) h
  | .slice t x lo hi mx => withO (opv env x) fun a => withP (optO env lo) fun l => withP (optO env hi) fun u => withP (optO env mx) fun m => aSlice P t a l u m fun r => K r h
  | .fieldAddr t x f => withO (opv env x) fun a => aFieldAddr P t a f fun r => K r h
  | .field t x f => withO (opv env x) fun a => aField P t a f fun r => K r h
  | .indexAddr t x i => withO2 (opv env x) (opv env i) fun a b => aIndexAddr P t a b fun r => K r h
  | .index t x i => withO2 (opv env x) (opv env i) fun a b => aIndex P t a b fun r => K r h
  | .extract x i => withO (opv env x) fun a => qExtract i a fun r => K r h
  | .call c => withL (opvs env c.args.toList) fun vs => (match c.callee with
    | .value f => withO (opv env f) fun v => ACallV P v vs h K
    | .builtin .len => (match vs, c.argTypes.toList with | [v], [t] => aLen P t v h fun r => K r h | _, _ => False)
    | .builtin .append => (match vs, c.argTypes.toList with | [v, u], [t, t2] => aAppend P t t2 v u h K | _, _ => False)
    | .builtin .max => (match vs with | [v, u] => qMax v u fun r => K r h | _ => False)
    | .builtin .min => (match vs with | [v, u] => qMin v u fun r => K r h | _ => False)
    | _ => False)
  | _ => False
theorem withO_ok {o : Option AV} {K : AV → Prop} (k : withO o K) : ∃ v, o = some v ∧ K v := by
  unfold withO at k; split at k
  · exact ⟨_, rfl, k⟩
  · exact k.elim
theorem withL_ok {o : Option (List AV)} {K : List AV → Prop} (k : withL o K) : ∃ v, o = some v ∧ K v := by
  unfold withL at k; split at k
  · exact ⟨_, rfl, k⟩
  · exact k.elim
theorem withP_ok {o : Option (Option AV)} {K : Option AV → Prop} (k : withP o K) : ∃ v, o = some v ∧ K v := by
  unfold withP at k; split at k
  · exact ⟨_, rfl, k⟩
  · exact k.elim
theorem optO_rep {env : Env} {a : Act} (r : EnvRep G env a.tmps) {x : Option Operand} {v : Option AV} (h : optO env x = some v) : OptRep G v (x.map a.eval) := by
  cases x with
  | none => simp only [optO, Option.some.injEq] at h; subst h; trivial
  | some x =>
    simp only [optO] at h
    split at h
    · rename_i u hu
      cases h
      exact opv_rep r hu
    · cases h
theorem RepL.two {x y : AV} {l : List Value} (r : RepL G [x, y] l) : ∃ a b, l = [a, b] ∧ Rep G x a ∧ Rep G y b := by
  simp only [RepL] at r
  obtain ⟨a, _, rfl, h1, b, _, rfl, h2, rfl⟩ := r
  exact ⟨a, b, rfl, h1, h2⟩
theorem RepL.single {x : AV} {l : List Value} (r : RepL G [x] l) : ∃ a, l = [a] ∧ Rep G x a := by
  simp only [RepL] at r
  obtain ⟨a, _, rfl, h1, rfl⟩ := r
  exact ⟨a, rfl, h1⟩
theorem aop1_ok (s : Sim G h w) {env : Env} {a : Act} (r : EnvRep G env a.tmps) {o : Oper} {K : QT} (k : aop1 P env h o K) : UpV P (N0 G h w K) ((execOp a.eval o).run P w) := by
  obtain ⟨dst, op, ty, pos, after, guard⟩ := o
  cases op <;> simp only [aop1] at k
  case move x =>
    obtain ⟨v, h1, k⟩ := withO_ok k
    simp only [execOp, Sem.run_pure]
    exact ⟨v, h, G, opv_rep r h1, k, s, Evo.refl _ _ _⟩
  case assign x =>
    obtain ⟨v, h1, k⟩ := withO_ok k
    simp only [execOp, Sem.run_pure]
    exact ⟨v, h, G, opv_rep r h1, k, s, Evo.refl _ _ _⟩
  case pick c x y =>
    obtain ⟨cv, h1, k⟩ := withO_ok k
    obtain ⟨xv, h2, k⟩ := withO_ok k
    obtain ⟨yv, h3, k⟩ := withO_ok k
    have hc := opv_rep r h1
    unfold ifB at k
    split at k
    · simp only [Rep] at hc
      simp only [execOp, hc.1, asBool, Sem.run_bind, Sem.run_pure, Result.andThen_ok, if_true]
      exact ⟨xv, h, G, opv_rep r h2, k, s, Evo.refl _ _ _⟩
    · simp only [Rep] at hc
      simp only [execOp, hc.1, asBool, Sem.run_bind, Sem.run_pure, Result.andThen_ok, Bool.false_eq_true, if_false]
      exact ⟨yv, h, G, opv_rep r h3, k, s, Evo.refl _ _ _⟩
    · exact k.elim
  case alloc e =>
    unfold aNew at k
    split at k
    · rename_i i hi
      split at k
      · rename_i z hz
        split at k
        · rename_i hzo
          have hzc : RepL G (ofV z).cells z.cells.toList := (rep_ofV G z hzo).cells (by
            unfold ofV ofV1; split <;> (try split) <;> rfl)
          obtain ⟨r', h', G', q1, q2, q3, q4⟩ := eNew_ok (t := e) s hzc k.out
          refine upV_of_ye ⟨r', _, h', G', _, ?_, q1, q2, q3, q4⟩
          simp only [Instr.alloc, Sem.run_bind, zeroValue, typeInfo, run_program, Result.andThen_ok, hi, hz, Sem.run_pure, newVar, newRow, run_newObj]
          rfl
        · exact k.elim
      · exact k.elim
    · exact k.elim
  case box e x =>
    obtain ⟨v, h1, k⟩ := withO_ok k
    obtain ⟨⟨ht, k⟩⟩ := k
    have hv := (opv_rep r h1).cells ht
    obtain ⟨r', h', G', q1, q2, q3, q4⟩ := eNew_ok (t := e) s hv k
    refine upV_of_ye ⟨r', _, h', G', _, ?_, q1, q2, q3, q4⟩
    simp only [Instr.box, newVar, newRow, Sem.run_bind, run_newObj, Result.andThen_ok, Sem.run_pure]
    rfl
  case build t ps =>
    obtain ⟨vs, h1, k⟩ := withL_ok k
    unfold aBuild at k
    split at k
    · rename_i fs i ht hi
      split at k
      · rename_i z l hz hl
        split at k
        · rename_i hzo
          split at k
          · rename_i qs hq
            have hr := opvs_rep r h1
            have hlen : vs.length = ps.size := by have := hr.length; simpa using this.symm
            refine upV_of_yl s (pBuild_ok (ps := (ps.toList.map (·.1)).zip vs) ht hi hz hzo hl hq ?_ ?_ k.out)
            · rw [List.map_fst_zip (by simp; omega)]
              simp
            · rw [List.map_snd_zip (by simp; omega)]
              have e2 : (ps.map fun p => (p.1, a.eval p.2)).toList.map (·.2) = (ps.toList.map (·.2)).map a.eval := by simp [List.map_map, Function.comp_def]
              rw [e2]; exact hr
          · exact k.elim
        · exact k.elim
      · exact k.elim
    · exact k.elim
  case buildSlice t n ps =>
    obtain ⟨vs, h1, k⟩ := withL_ok k
    unfold aBuildSlice at k
    split at k
    · rename_i e ht
      split at k
      · rename_i i hi
        split at k
        · rename_i z hz
          split at k
          · rename_i hc
            simp only [Bool.and_eq_true, beq_iff_eq, decide_eq_true_eq] at hc
            have hr := opvs_rep r h1
            have hn : ps.toList.length = n := by have := congrArg List.length hc.1; simpa using this
            have e2 : (ps.toList.map fun p => a.eval p.2) = (ps.toList.map (·.2)).map a.eval := by simp [List.map_map, Function.comp_def]
            obtain ⟨r', v, h', G', w', q1, q2, ⟨q3, q5⟩, q4⟩ := pBuildSlice_ok s (xs := ps.toList.map fun p => a.eval p.2) (ps := ps.map fun p => (p.1, a.eval p.2)) ht hi hz (by
              apply List.ext_getElem?
              intro j
              simp only [Array.toList_map, List.getElem?_map, List.getElem?_zipIdx]
              rcases Nat.lt_or_ge j ps.toList.length with hj | hj
              · have e1 := congrArg (·[j]?) hc.1
                simp only [List.getElem?_map, List.getElem?_range (show j < n by omega)] at e1
                rw [List.getElem?_eq_getElem hj] at e1 ⊢
                simp at e1
                simp [e1]
              · rw [List.getElem?_eq_none hj]; rfl) (by rw [e2]; exact hr) hc.2 k.out
            subst q5
            exact upV_of_ye ⟨r', v, _, G', w', q1, q2, q3, q4⟩
          · exact k.elim
        · exact k.elim
      · exact k.elim
    · exact k.elim
  case load t x =>
    obtain ⟨v, h1, k⟩ := withO_ok k
    unfold aLoad at k
    split at k
    · rename_i d i ht hi
      split at k
      · rename_i hd; exact upV_of_yl s (pLoadA_ok s ht hd hi (opv_rep r h1) k.out)
      · rename_i hd; exact upV_of_yl s (pLoad1_ok s ht (by simpa using hd) (opv_rep r h1) k.out)
    · exact k.elim
  case store t x u =>
    obtain ⟨v, h1, k⟩ := withO_ok k
    obtain ⟨y, h2, k⟩ := withO_ok k
    unfold aStore at k
    split at k
    · rename_i i hi
      obtain ⟨h', G', w', q1, q2, q3, q4⟩ := eStore_ok s hi (opv_rep r h1) (opv_rep r h2) k.out
      simp only [execOp, Sem.run_bind, q1, Result.andThen_ok, Sem.run_pure]
      exact ⟨.tup [], h', G', by simp [Rep, RepL, undef], q2, q3, q4⟩
    · exact k.elim
  case nilCheck x =>
    obtain ⟨v, h1, k⟩ := withO_ok k
    have hv := opv_rep r h1
    replace k := k.out
    unfold pNil at k
    split at k
    · have hv' := hv
      simp only [Rep] at hv
      obtain ⟨b, o, _, e⟩ := hv
      simp only [execOp, e, Sem.run_pure]
      exact ⟨_, h, G, by rw [← e]; exact hv', k, s, Evo.refl _ _ _⟩
    · have hv' := hv
      simp only [Rep] at hv
      obtain ⟨b, o, e, _⟩ := hv
      simp only [execOp, e, Sem.run_pure]
      exact ⟨_, h, G, by rw [← e]; exact hv', k, s, Evo.refl _ _ _⟩
    · have hv' := hv
      simp only [Rep] at hv
      obtain ⟨vs, ws, e, _, _⟩ := hv
      simp only [execOp, e, Sem.run_pure]
      exact ⟨_, h, G, by rw [← e]; exact hv', k, s, Evo.refl _ _ _⟩
    · exact k.elim
  case binOp op t x y yt =>
    obtain ⟨v, h1, k⟩ := withO_ok k
    obtain ⟨u, h2, k⟩ := withO_ok k
    unfold aBin at k
    split at k
    · exact upV_of_yl s (pBinB_ok ‹_› (opv_rep r h1) (opv_rep r h2) k.out)
    · exact upV_of_yl s (pBinP_ok ‹_› (opv_rep r h1) (opv_rep r h2) k.out)
    · exact upV_of_yl s (pBin_ok (opv_rep r h1) (opv_rep r h2) k.out)
    · exact upV_of_yl s (pBin_ok (opv_rep r h1) (opv_rep r h2) k.out)
    · exact upV_of_yl s (pBin_ok (opv_rep r h1) (opv_rep r h2) k.out)
    · exact k.elim
  case unOp op t x =>
    obtain ⟨v, h1, k⟩ := withO_ok k
    exact upV_of_yl s (pUn_ok (opv_rep r h1) k.out)
  case convert sr d x =>
    obtain ⟨v, h1, k⟩ := withO_ok k
    unfold aConv at k
    split at k
    · exact upV_of_yl s (pConvII_ok ‹_› ‹_› (opv_rep r h1) k.out)
    · exact upV_of_yl s (pConvIF_ok ‹_› ‹_› (opv_rep r h1) k.out)
    · exact upV_of_yl s (pConvSS_ok ‹_› ‹_› (opv_rep r h1) k.out)
    · exact k.elim
  case makeInterface t x =>
    obtain ⟨v, h1, k⟩ := withO_ok k
    unfold aIface at k
    split at k
    · exact k.elim
    · rename_i d hd ht
      exact upV_of_yl s (pIface_ok ht (fun m e => hd m e) (opv_rep r h1) k.out)
    · exact k.elim
  case makeFunc f fi ca =>
    obtain ⟨vs, h1, k⟩ := withL_ok k
    obtain ⟨ws, h2, k⟩ := withL_ok k
    refine upV_of_yl s ⟨_, _, by simp only [Instr.makeFunc, Sem.run_pure]; rfl, ?_, k⟩
    simp only [Rep]
    exact ⟨fi.toList.map a.eval, ca.toList.map a.eval, by congr 1 <;> (apply Array.toList_inj.1; simp), opvs_rep r h1, opvs_rep r h2⟩
  case slice t x lo hio mx =>
    obtain ⟨v, h1, k1⟩ := withO_ok k
    obtain ⟨l, h2, k2⟩ := withP_ok k1
    obtain ⟨u, h3, k3⟩ := withP_ok k2
    obtain ⟨m, h4, k4⟩ := withP_ok k3
    clear k k1 k2 k3
    have hm := optO_rep r h4
    have hl := optO_rep r h2
    have hu := optO_rep r h3
    clear h2 h3 h4
    unfold aSlice at k4
    split at k4
    · rename_i ht
      cases mx with
      | some _ => simp [OptRep] at hm
      | none => exact upV_of_yl s (pSliceS_ok ht (opv_rep r h1) hl hu k4.out)
    · rename_i e ht
      cases mx with
      | some _ => simp [OptRep] at hm
      | none =>
        split at k4
        · exact upV_of_yl s (pSliceL_ok ht ‹_› (opv_rep r h1) hl hu k4.out)
        · exact k4.elim
    · rename_i e k2 ht
      split at k4
      · rename_i i k1 hinf
        cases mx with
        | none => simp [OptRep] at hm
        | some mx =>
          cases lo with
          | some _ => simp [OptRep] at hl
          | none =>
            cases hio with
            | none => simp [OptRep] at hu
            | some hi' =>
              simp only [OptRep, Option.map_some, Rep] at hu hm
              have := upV_of_yl s (pSliceZ_ok (P := P) ht hinf (opv_rep r h1) k1 k2 k4.out)
              simp only [execOp, Option.map_some, Option.map_none, hu.1, hm.1]
              exact this
      · exact k4.elim
    · exact k4.elim
  case fieldAddr t x f =>
    obtain ⟨v, h1, k⟩ := withO_ok k
    unfold aFieldAddr at k
    split at k
    · rename_i fs ht
      split at k
      · rename_i fd hfd
        split at k
        · rename_i i hi
          split at k
          · exact k.elim
          · rename_i hz
            exact upV_of_yl s (pFieldAddr_ok ht hfd hi hz (opv_rep r h1) k.out)
        · exact k.elim
      · exact k.elim
    · exact k.elim
  case field t x f =>
    obtain ⟨v, h1, k⟩ := withO_ok k
    unfold aField at k
    split at k
    · rename_i fs ht
      split at k
      · rename_i fd hfd
        unfold aPart at k
        have hrun : ∀ x : Value, (Instr.field t x f).run P w = (do part fd.type (← asAgg x) fd.offset : Sem Value).run P w := fun x => by
          simp only [Instr.field, Sem.run_bind, run_underlying ht, Result.andThen_ok, hfd]
        split at k
        · rename_i d i hd hi
          split at k
          · rename_i ha
            obtain ⟨r', v', q1, q2, q3⟩ := pPartA_ok (P := P) (w := w) hd ha hi (opv_rep r h1) k.out
            exact upV_of_yl s ⟨r', v', by rw [hrun]; exact q1, q2, q3⟩
          · rename_i ha
            obtain ⟨r', v', q1, q2, q3⟩ := pPart1_ok (P := P) (w := w) hd (by simpa using ha) (opv_rep r h1) k.out
            exact upV_of_yl s ⟨r', v', by rw [hrun]; exact q1, q2, q3⟩
        · exact k.elim
      · exact k.elim
    · exact k.elim
  case indexAddr t x i =>
    obtain ⟨v, h1, k⟩ := withO_ok k
    obtain ⟨u, h2, k⟩ := withO_ok k
    unfold aIndexAddr at k
    split at k
    · split at k
      · exact upV_of_yl s (pIndexAddr_ok ‹_› ‹_› (opv_rep r h1) (opv_rep r h2) k.out)
      · exact k.elim
    · split at k
      · exact upV_of_yl s (pIndexAddrA_ok ‹_› ‹_› (opv_rep r h1) (opv_rep r h2) k.out)
      · exact k.elim
    · exact k.elim
  case index t x i =>
    obtain ⟨v, h1, k⟩ := withO_ok k
    obtain ⟨u, h2, k⟩ := withO_ok k
    unfold aIndex at k
    split at k
    · exact upV_of_yl s (pIndexS_ok ‹_› (opv_rep r h1) (opv_rep r h2) k.out)
    · exact k.elim
  case extract x i =>
    obtain ⟨v, h1, k⟩ := withO_ok k
    exact upV_of_yl s (pExtract_ok (opv_rep r h1) k.out)
  case call c =>
    obtain ⟨vs, h1, kk⟩ := withL_ok k
    clear k
    have hr := opvs_rep r h1
    obtain ⟨callee, args, argTypes⟩ := c
    cases callee with
    | value f =>
      simp only at kk
      obtain ⟨v, h2, k3⟩ := withO_ok kk
      have := call_ok (P := P) (ys := args.map a.eval) s (opv_rep r h2) (by simpa using hr) k3
      simpa [execOp, resolve] using this
    | invoke _ _ => exact kk.elim
    | builtin b =>
      cases b <;> simp only at kk <;> try exact kk.elim
      case len =>
        split at kk
        · rename_i v t hT
          obtain ⟨d, hd, hf, kk⟩ := aLen_ok kk
          obtain ⟨x, hx, hx2⟩ := hr.single
          have ha : argTypes = #[t] := by apply Array.toList_inj.1; simpa using hT
          have hargs : args.map a.eval = #[x] := by apply Array.toList_inj.1; simpa using hx
          subst ha
          obtain ⟨r', v', q1, q2, q3⟩ := pLen_ok (ty := ty) s hd hx2 hf kk
          simp only [execOp, resolve, Sem.run_bind, Sem.run_pure, Result.andThen_ok, invoke, builtin, hargs, q1]
          exact ⟨r', h, G, q2, q3, s, Evo.refl _ _ _⟩
        · exact kk.elim
      case append =>
        split at kk
        · rename_i v u t t2 hT
          unfold aAppend at kk
          split at kk
          · rename_i e d2 ht ht2
            split at kk
            · rename_i i hi
              split at kk
              · rename_i hok
                obtain ⟨x, y, hx, hx2, hx3⟩ := hr.two
                have ha : argTypes = #[t, t2] := by apply Array.toList_inj.1; simpa using hT
                have hargs : args.map a.eval = #[x, y] := by apply Array.toList_inj.1; simpa using hx
                subst ha
                simp only [appOk, Bool.and_eq_true, decide_eq_true_eq] at hok
                obtain ⟨⟨ho1, ho2⟩, ho3⟩ := hok
                split at ho1
                · rename_i z hz
                  have T : AppTypes P t t2 e i z := ⟨ht, ⟨d2, ht2, fun k e => by subst e; simp at ho3⟩, hi, hz, by simpa using ho1, ho2⟩
                  obtain ⟨r', v', h', G', w', q1, q2, q3, q4, q5⟩ := eAppend_ok (ty := ty) s T hx2 hx3 kk.out
                  simp only [execOp, resolve, Sem.run_bind, Sem.run_pure, Result.andThen_ok, invoke, builtin, hargs, q1]
                  exact ⟨r', h', G', q2, q3, q4, q5⟩
                · cases ho1
              · exact kk.elim
            · exact kk.elim
          · exact kk.elim
        · exact kk.elim
      case max =>
        split at kk
        · rename_i v u
          obtain ⟨x, y, hx, hx2, hx3⟩ := hr.two
          have hargs : args.map a.eval = #[x, y] := by apply Array.toList_inj.1; simpa using hx
          obtain ⟨r', v', q1, q2, q3⟩ := pMax_ok (P := P) (w := w) (ts := argTypes) (t := ty) hx2 hx3 kk.out
          simp only [execOp, resolve, Sem.run_bind, Sem.run_pure, Result.andThen_ok, invoke, builtin, hargs, q1]
          exact ⟨r', h, G, q2, q3, s, Evo.refl _ _ _⟩
        · exact kk.elim
      case min =>
        split at kk
        · rename_i v u
          obtain ⟨x, y, hx, hx2, hx3⟩ := hr.two
          have hargs : args.map a.eval = #[x, y] := by apply Array.toList_inj.1; simpa using hx
          obtain ⟨r', v', q1, q2, q3⟩ := pMin_ok (P := P) (w := w) (ts := argTypes) (t := ty) hx2 hx3 kk.out
          simp only [execOp, resolve, Sem.run_bind, Sem.run_pure, Result.andThen_ok, invoke, builtin, hargs, q1]
          exact ⟨r', h, G, q2, q3, s, Evo.refl _ _ _⟩
        · exact kk.elim
end
end
section
variable [Tabs]
section
variable {P : Program}
theorem pBin_mono {K K' : AV → Prop} (hk : ∀ v, K v → K' v) (op : BinOp) (x y : AV) (k : pBin op x y K) : pBin op x y K' := by
  unfold pBin at *
  (repeat' split at k) <;> first | exact k.elim | simp_all
theorem pBinB_mono {K K' : AV → Prop} (hk : ∀ v, K v → K' v) (op : BinOp) (x y : AV) (k : pBinB op x y K) : pBinB op x y K' := by
  unfold pBinB at *
  (repeat' split at k) <;> first | exact k.elim | simp_all
theorem pBinP_mono {K K' : AV → Prop} (hk : ∀ v, K v → K' v) (op : BinOp) (x y : AV) (k : pBinP op x y K) : pBinP op x y K' := by
  unfold pBinP at *
  (repeat' split at k) <;> first | exact k.elim | simp_all
theorem pUn_mono {K K' : AV → Prop} (hk : ∀ v, K v → K' v) (op : UnOp) (x : AV) (k : pUn op x K) : pUn op x K' := by
  unfold pUn at *
  (repeat' split at k) <;> first | exact k.elim | simp_all
theorem pConvII_mono {K K' : AV → Prop} (hk : ∀ v, K v → K' v) (d : IntKind) (x : AV) (k : pConvII d x K) : pConvII d x K' := by
  unfold pConvII at *
  (repeat' split at k) <;> first | exact k.elim | simp_all
theorem pConvIF_mono {K K' : AV → Prop} (hk : ∀ v, K v → K' v) (d : FloatKind) (x : AV) (k : pConvIF d x K) : pConvIF d x K' := by
  unfold pConvIF at *
  (repeat' split at k) <;> first | exact k.elim | simp_all
theorem pConvSS_mono {K K' : AV → Prop} (hk : ∀ v, K v → K' v) (x : AV) (k : pConvSS x K) : pConvSS x K' := by
  unfold pConvSS at *
  (repeat' split at k) <;> first | exact k.elim | simp_all
theorem pNil_mono {K K' : AV → Prop} (hk : ∀ v, K v → K' v) (x : AV) (k : pNil x K) : pNil x K' := by
  unfold pNil at *
  (repeat' split at k) <;> first | exact k.elim | simp_all
theorem pFieldAddr_mono {K K' : AV → Prop} (hk : ∀ v, K v → K' v) (n : Nat) (x : AV) (k : pFieldAddr n x K) : pFieldAddr n x K' := by
  unfold pFieldAddr at *
  (repeat' split at k) <;> first | exact k.elim | simp_all
theorem pLoadA_mono {K K' : AV → Prop} (hk : ∀ v, K v → K' v) (n : Nat) (x : AV) (h : AHeap) (k : pLoadA n x h K) : pLoadA n x h K' := by
  unfold pLoadA at *
  (repeat' split at k) <;> first | exact k.elim | simp_all
theorem pLoad1_mono {K K' : AV → Prop} (hk : ∀ v, K v → K' v) (x : AV) (h : AHeap) (k : pLoad1 x h K) : pLoad1 x h K' := by
  unfold pLoad1 at *
  (repeat' split at k) <;> first | exact k.elim | simp_all
theorem pPartA_mono {K K' : AV → Prop} (hk : ∀ v, K v → K' v) (o n : Nat) (x : AV) (k : pPartA o n x K) : pPartA o n x K' := by
  unfold pPartA at *
  (repeat' split at k) <;> first | exact k.elim | simp_all
theorem pPart1_mono {K K' : AV → Prop} (hk : ∀ v, K v → K' v) (o : Nat) (x : AV) (k : pPart1 o x K) : pPart1 o x K' := by
  unfold pPart1 at *
  (repeat' split at k) <;> first | exact k.elim | simp_all
theorem pIndexS_mono {K K' : AV → Prop} (hk : ∀ v, K v → K' v) (x i : AV) (k : pIndexS x i K) : pIndexS x i K' := by
  unfold pIndexS at *
  (repeat' split at k) <;> first | exact k.elim | simp_all
theorem pIndexAddr_mono {K K' : AV → Prop} (hk : ∀ v, K v → K' v) (n : Nat) (x i : AV) (k : pIndexAddr n x i K) : pIndexAddr n x i K' := by
  unfold pIndexAddr at *
  (repeat' split at k) <;> first | exact k.elim | simp_all
theorem pIndexAddrA_mono {K K' : AV → Prop} (hk : ∀ v, K v → K' v) (m n : Nat) (x i : AV) (k : pIndexAddrA m n x i K) : pIndexAddrA m n x i K' := by
  unfold pIndexAddrA at *
  (repeat' split at k) <;> first | exact k.elim | simp_all
theorem pSliceS_mono {K K' : AV → Prop} (hk : ∀ v, K v → K' v) (x : AV) (a b : Option AV) (k : pSliceS x a b K) : pSliceS x a b K' := by
  unfold pSliceS at *
  (repeat' split at k) <;> first | exact k.elim | simp_all
theorem pSliceL_mono {K K' : AV → Prop} (hk : ∀ v, K v → K' v) (n : Nat) (x : AV) (a b : Option AV) (k : pSliceL n x a b K) : pSliceL n x a b K' := by
  unfold pSliceL at *
  (repeat' split at k) <;> first | exact k.elim | simp_all
theorem pSliceZ_mono {K K' : AV → Prop} (hk : ∀ v, K v → K' v) (x : AV) (k : pSliceZ x K) : pSliceZ x K' := by
  unfold pSliceZ at *
  (repeat' split at k) <;> first | exact k.elim | simp_all
theorem pLenS_mono {K K' : AV → Prop} (hk : ∀ v, K v → K' v) (x : AV) (k : pLenS x K) : pLenS x K' := by
  unfold pLenS at *
  (repeat' split at k) <;> first | exact k.elim | simp_all
theorem pLenL_mono {K K' : AV → Prop} (hk : ∀ v, K v → K' v) (x : AV) (k : pLenL x K) : pLenL x K' := by
  unfold pLenL at *
  (repeat' split at k) <;> first | exact k.elim | simp_all
theorem pLenM_mono {K K' : AV → Prop} (hk : ∀ v, K v → K' v) (x : AV) (h : AHeap) (k : pLenM x h K) : pLenM x h K' := by
  unfold pLenM at *
  (repeat' split at k) <;> first | exact k.elim | simp_all
theorem pExtract_mono {K K' : AV → Prop} (hk : ∀ v, K v → K' v) (i : Nat) (x : AV) (k : pExtract i x K) : pExtract i x K' := by
  unfold pExtract at *
  (repeat' split at k) <;> first | exact k.elim | simp_all
theorem pMax_mono {K K' : AV → Prop} (hk : ∀ v, K v → K' v) (x y : AV) (k : pMax x y K) : pMax x y K' := by
  unfold pMax at *
  split at k
  · exact hk _ k
  · exact k.elim
theorem pMin_mono {K K' : AV → Prop} (hk : ∀ v, K v → K' v) (x y : AV) (k : pMin x y K) : pMin x y K' := by
  unfold pMin at *
  split at k
  · exact hk _ k
  · exact k.elim
theorem pBuild_mono {K K' : AV → Prop} (hk : ∀ v, K v → K' v) (z : List AV) (ps : List (Nat × Nat × AV)) (k : pBuild z ps K) : pBuild z ps K' := by
  unfold pBuild at *
  (repeat' split at k) <;> first | exact k.elim | simp_all
theorem qBin_mono {K K' : AV → Prop} (hk : ∀ v, K v → K' v) (op : BinOp) (x y : AV) (k : qBin op x y K) : qBin op x y K' := ⟨pBin_mono hk op x y k.out⟩
theorem qBinB_mono {K K' : AV → Prop} (hk : ∀ v, K v → K' v) (op : BinOp) (x y : AV) (k : qBinB op x y K) : qBinB op x y K' := ⟨pBinB_mono hk op x y k.out⟩
theorem qBinP_mono {K K' : AV → Prop} (hk : ∀ v, K v → K' v) (op : BinOp) (x y : AV) (k : qBinP op x y K) : qBinP op x y K' := ⟨pBinP_mono hk op x y k.out⟩
theorem qUn_mono {K K' : AV → Prop} (hk : ∀ v, K v → K' v) (op : UnOp) (x : AV) (k : qUn op x K) : qUn op x K' := ⟨pUn_mono hk op x k.out⟩
theorem qConvII_mono {K K' : AV → Prop} (hk : ∀ v, K v → K' v) (d : IntKind) (x : AV) (k : qConvII d x K) : qConvII d x K' := ⟨pConvII_mono hk d x k.out⟩
theorem qConvIF_mono {K K' : AV → Prop} (hk : ∀ v, K v → K' v) (d : FloatKind) (x : AV) (k : qConvIF d x K) : qConvIF d x K' := ⟨pConvIF_mono hk d x k.out⟩
theorem qConvSS_mono {K K' : AV → Prop} (hk : ∀ v, K v → K' v) (x : AV) (k : qConvSS x K) : qConvSS x K' := ⟨pConvSS_mono hk x k.out⟩
theorem qNil_mono {K K' : AV → Prop} (hk : ∀ v, K v → K' v) (x : AV) (k : qNil x K) : qNil x K' := ⟨pNil_mono hk x k.out⟩
theorem qFieldAddr_mono {K K' : AV → Prop} (hk : ∀ v, K v → K' v) (n : Nat) (x : AV) (k : qFieldAddr n x K) : qFieldAddr n x K' := ⟨pFieldAddr_mono hk n x k.out⟩
theorem qLoadA_mono {K K' : AV → Prop} (hk : ∀ v, K v → K' v) (n : Nat) (x : AV) (h : AHeap) (k : qLoadA n x h K) : qLoadA n x h K' := ⟨pLoadA_mono hk n x h k.out⟩
theorem qLoad1_mono {K K' : AV → Prop} (hk : ∀ v, K v → K' v) (x : AV) (h : AHeap) (k : qLoad1 x h K) : qLoad1 x h K' := ⟨pLoad1_mono hk x h k.out⟩
theorem qPartA_mono {K K' : AV → Prop} (hk : ∀ v, K v → K' v) (o n : Nat) (x : AV) (k : qPartA o n x K) : qPartA o n x K' := ⟨pPartA_mono hk o n x k.out⟩
theorem qPart1_mono {K K' : AV → Prop} (hk : ∀ v, K v → K' v) (o : Nat) (x : AV) (k : qPart1 o x K) : qPart1 o x K' := ⟨pPart1_mono hk o x k.out⟩
theorem qIndexS_mono {K K' : AV → Prop} (hk : ∀ v, K v → K' v) (x i : AV) (k : qIndexS x i K) : qIndexS x i K' := ⟨pIndexS_mono hk x i k.out⟩
theorem qIndexAddr_mono {K K' : AV → Prop} (hk : ∀ v, K v → K' v) (n : Nat) (x i : AV) (k : qIndexAddr n x i K) : qIndexAddr n x i K' := ⟨pIndexAddr_mono hk n x i k.out⟩
theorem qIndexAddrA_mono {K K' : AV → Prop} (hk : ∀ v, K v → K' v) (m n : Nat) (x i : AV) (k : qIndexAddrA m n x i K) : qIndexAddrA m n x i K' := ⟨pIndexAddrA_mono hk m n x i k.out⟩
theorem qSliceS_mono {K K' : AV → Prop} (hk : ∀ v, K v → K' v) (x : AV) (a b : Option AV) (k : qSliceS x a b K) : qSliceS x a b K' := ⟨pSliceS_mono hk x a b k.out⟩
theorem qSliceL_mono {K K' : AV → Prop} (hk : ∀ v, K v → K' v) (n : Nat) (x : AV) (a b : Option AV) (k : qSliceL n x a b K) : qSliceL n x a b K' := ⟨pSliceL_mono hk n x a b k.out⟩
theorem qSliceZ_mono {K K' : AV → Prop} (hk : ∀ v, K v → K' v) (x : AV) (k : qSliceZ x K) : qSliceZ x K' := ⟨pSliceZ_mono hk x k.out⟩
theorem qLenS_mono {K K' : AV → Prop} (hk : ∀ v, K v → K' v) (x : AV) (k : qLenS x K) : qLenS x K' := ⟨pLenS_mono hk x k.out⟩
theorem qLenL_mono {K K' : AV → Prop} (hk : ∀ v, K v → K' v) (x : AV) (k : qLenL x K) : qLenL x K' := ⟨pLenL_mono hk x k.out⟩
theorem qLenM_mono {K K' : AV → Prop} (hk : ∀ v, K v → K' v) (x : AV) (h : AHeap) (k : qLenM x h K) : qLenM x h K' := ⟨pLenM_mono hk x h k.out⟩
theorem qExtract_mono {K K' : AV → Prop} (hk : ∀ v, K v → K' v) (i : Nat) (x : AV) (k : qExtract i x K) : qExtract i x K' := ⟨pExtract_mono hk i x k.out⟩
theorem qMax_mono {K K' : AV → Prop} (hk : ∀ v, K v → K' v) (x y : AV) (k : qMax x y K) : qMax x y K' := ⟨pMax_mono hk x y k.out⟩
theorem qMin_mono {K K' : AV → Prop} (hk : ∀ v, K v → K' v) (x y : AV) (k : qMin x y K) : qMin x y K' := ⟨pMin_mono hk x y k.out⟩
theorem qBuild_mono {K K' : AV → Prop} (hk : ∀ v, K v → K' v) (z : List AV) (ps : List (Nat × Nat × AV)) (k : qBuild z ps K) : qBuild z ps K' := ⟨pBuild_mono hk z ps k.out⟩
theorem pBuildSlice_mono {K K' : AV → Prop} (hk : ∀ v, K v → K' v) (n m : Nat) (vs : List AV) (k : pBuildSlice n m vs K) : pBuildSlice n m vs K' := ⟨k.1, hk _ k.2⟩
theorem eStore_mono {K K' : AHeap → Prop} (hk : ∀ v, K v → K' v) (n : Nat) (x y : AV) (h : AHeap) (k : eStore n x y h K) : eStore n x y h K' := by
  unfold eStore at *
  (repeat' split at k) <;> first | exact k.elim | exact ⟨k.1, hk _ k.2⟩
theorem eAppend_mono {K K' : QT} (hk : ∀ v h, K v h → K' v h) (n m : Nat) (x y : AV) (h : AHeap) (k : eAppend n m x y h K) : eAppend n m x y h K' := by
  unfold eAppend at *
  split at k
  · exact k.elim
  · split at k
    · refine ⟨k.1, ?_⟩
      have k2 := k.2
      split at k2
      · rename_i h0; rw [if_pos h0]; exact hk _ _ k2
      · rename_i h0; rw [if_neg h0]; exact hk _ _ k2
    · split at k
      · exact ⟨k.1, hk _ _ k.2⟩
      · exact k.elim
    · exact k.elim
theorem ACallV_mono {K K' : QT} (hk : ∀ v h, K v h → K' v h) (x : AV) (vs : List AV) (h : AHeap) (k : ACallV P x vs h K) : ACallV P x vs h K' := by
  unfold ACallV at *
  split at k
  · exact k.mono hk
  · exact k.elim
theorem withO_mono {K K' : AV → Prop} (hk : ∀ v, K v → K' v) (o : Option AV) (k : withO o K) : withO o K' := by
  unfold withO at *; split at k
  · exact hk _ k
  · exact k.elim
theorem withL_mono {K K' : List AV → Prop} (hk : ∀ v, K v → K' v) (o : Option (List AV)) (k : withL o K) : withL o K' := by
  unfold withL at *; split at k
  · exact hk _ k
  · exact k.elim
theorem withP_mono {K K' : Option AV → Prop} (hk : ∀ v, K v → K' v) (o : Option (Option AV)) (k : withP o K) : withP o K' := by
  unfold withP at *; split at k
  · exact hk _ k
  · exact k.elim
theorem withO2_mono {K K' : AV → AV → Prop} (hk : ∀ v u, K v u → K' v u) (a b : Option AV) (k : withO2 a b K) : withO2 a b K' := withO_mono (fun _ k => withO_mono (fun _ k => hk _ _ k) _ k) _ k
theorem ifB_mono {v : AV} {X Y X' Y' : Prop} (hx : X → X') (hy : Y → Y') (k : ifB v X Y) : ifB v X' Y' := by
  unfold ifB at *; split at k
  · exact hx k
  · exact hy k
  · exact k.elim
theorem qIface_mono {K K' : AV → Prop} (hk : ∀ v, K v → K' v) (t : TypeId) (x : AV) (k : qIface t x K) : qIface t x K' := ⟨hk _ k.out⟩
theorem qBuildSlice_mono {K K' : AV → Prop} (hk : ∀ v, K v → K' v) (n m : Nat) (vs : List AV) (k : qBuildSlice n m vs K) : qBuildSlice n m vs K' := ⟨pBuildSlice_mono hk _ _ _ k.out⟩
theorem qStore_mono {K K' : AHeap → Prop} (hk : ∀ v, K v → K' v) (n : Nat) (x y : AV) (h : AHeap) (k : qStore n x y h K) : qStore n x y h K' := ⟨eStore_mono hk _ _ _ _ k.out⟩
theorem qAppend_mono {K K' : QT} (hk : ∀ v h, K v h → K' v h) (n m : Nat) (x y : AV) (h : AHeap) (k : qAppend n m x y h K) : qAppend n m x y h K' := ⟨eAppend_mono hk _ _ _ _ _ k.out⟩
theorem aop1_mono {env : Env} {h : AHeap} {o : Oper} {K K' : QT} (hk : ∀ v h, K v h → K' v h) (k : aop1 P env h o K) : aop1 P env h o K' := by
  obtain ⟨dst, op, ty, pos, after, guard⟩ := o
  have hk' : ∀ v, K v h → K' v h := fun v => hk v h
  cases op <;> simp only [aop1] at k ⊢
  case move => exact withO_mono hk' _ k
  case assign => exact withO_mono hk' _ k
  case pick => exact withO_mono (fun _ k => withO2_mono (fun _ _ k => ifB_mono (hk' _) (hk' _) k) _ _ k) _ k
  case alloc => unfold aNew at *; (repeat' split at k) <;> first | exact k.elim | (rw [if_pos ‹_›]; exact ⟨hk _ _ k.out⟩)
  case box => exact withO_mono (fun _ k => ⟨⟨k.out.1, hk _ _ k.out.2⟩⟩) _ k
  case build => refine withL_mono (fun _ k => ?_) _ k; unfold aBuild at *; (repeat' split at k) <;> first | exact k.elim | (rw [if_pos ‹_›]; exact qBuild_mono hk' _ _ k)
  case buildSlice => refine withL_mono (fun _ k => ?_) _ k; unfold aBuildSlice at *; (repeat' split at k) <;> first | exact k.elim | (rw [if_pos ‹_›]; exact qBuildSlice_mono hk' _ _ _ k)
  case load => refine withO_mono (fun _ k => ?_) _ k; unfold aLoad at *; (repeat' split at k) <;> first | exact k.elim | (rw [if_pos ‹_›]; exact qLoadA_mono hk' _ _ _ k) | (rw [if_neg ‹_›]; exact qLoad1_mono hk' _ _ k)
  case store => refine withO2_mono (fun _ _ k => ?_) _ _ k; unfold aStore at *; (repeat' split at k) <;> first | exact k.elim | exact qStore_mono (fun _ k => hk _ _ k) _ _ _ _ k
  case nilCheck => exact withO_mono (fun _ k => qNil_mono hk' _ k) _ k
  case binOp => refine withO2_mono (fun _ _ k => ?_) _ _ k; unfold aBin at *; (repeat' split at k) <;> first | exact k.elim | exact qBin_mono hk' _ _ _ k | exact qBinB_mono hk' _ _ _ k | exact qBinP_mono hk' _ _ _ k
  case unOp => exact withO_mono (fun _ k => qUn_mono hk' _ _ k) _ k
  case convert => refine withO_mono (fun _ k => ?_) _ k; unfold aConv at *; (repeat' split at k) <;> first | exact k.elim | exact qConvII_mono hk' _ _ k | exact qConvIF_mono hk' _ _ k | exact qConvSS_mono hk' _ k
  case makeInterface => refine withO_mono (fun _ k => ?_) _ k; unfold aIface at *; (repeat' split at k) <;> first | exact k.elim | exact qIface_mono hk' _ _ k
  case makeFunc => exact withL_mono (fun _ k => withL_mono (fun _ k => hk _ _ k) _ k) _ k
  case slice => refine withO_mono (fun _ k => withP_mono (fun _ k => withP_mono (fun _ k => withP_mono (fun _ k => ?_) _ k) _ k) _ k) _ k; unfold aSlice at *; (repeat' split at k) <;> first | exact k.elim | exact qSliceS_mono hk' _ _ _ k | exact qSliceL_mono hk' _ _ _ _ k | exact qSliceZ_mono hk' _ k
  case fieldAddr => refine withO_mono (fun _ k => ?_) _ k; unfold aFieldAddr at *; (repeat' split at k) <;> first | exact k.elim | (rw [if_neg ‹_›]; exact qFieldAddr_mono hk' _ _ k)
  case field => refine withO_mono (fun _ k => ?_) _ k; unfold aField aPart at *; (repeat' split at k) <;> first | exact k.elim | (rw [if_pos ‹_›]; exact qPartA_mono hk' _ _ _ k) | (rw [if_neg ‹_›]; exact qPart1_mono hk' _ _ k)
  case indexAddr => refine withO2_mono (fun _ _ k => ?_) _ _ k; unfold aIndexAddr at *; (repeat' split at k) <;> first | exact k.elim | exact qIndexAddr_mono hk' _ _ _ k | exact qIndexAddrA_mono hk' _ _ _ _ k
  case index => refine withO2_mono (fun _ _ k => ?_) _ _ k; unfold aIndex at *; (repeat' split at k) <;> first | exact k.elim | exact qIndexS_mono hk' _ _ k
  case extract => exact withO_mono (fun _ k => qExtract_mono hk' _ _ k) _ k
  case call c =>
    refine withL_mono (fun _ k => ?_) _ k
    split at k
    · exact withO_mono (fun _ k => ACallV_mono hk _ _ _ k) _ k
    · split at k
      · unfold aLen at *
        (repeat' split at k) <;> first | exact k.elim | exact qLenS_mono hk' _ k | exact qLenL_mono hk' _ k | exact qLenM_mono hk' _ _ k
      · exact k.elim
    · split at k
      · unfold aAppend at *
        (repeat' split at k) <;> first | exact k.elim | (rw [if_pos ‹_›]; exact qAppend_mono hk _ _ _ _ _ k)
      · exact k.elim
    · split at k
      · exact qMax_mono hk' _ _ k
      · exact k.elim
    · split at k
      · exact qMin_mono hk' _ _ k
      · exact k.elim
    · exact k.elim
end
end
section
variable [Tabs]
structure qLookup (d : TypeDesc) (ok : Bool) (z x key : AV) (h : AHeap) (K : AV → Prop) : Prop where
  mk :: (out : pLookup d ok z x key h K)
structure qBytesStr (x : AV) (h : AHeap) (K : AV → Prop) : Prop where
  mk :: (out : pBytesStr x h K)
structure qIsNilM (op : BinOp) (x : AV) (K : AV → Prop) : Prop where
  mk :: (out : pIsNilM op x K)
structure qIsNilI (op : BinOp) (x : AV) (K : AV → Prop) : Prop where
  mk :: (out : pIsNilI op x K)
structure qIsNilF (op : BinOp) (x : AV) (K : AV → Prop) : Prop where
  mk :: (out : pIsNilF op x K)
structure qIsNilS (op : BinOp) (x : AV) (K : AV → Prop) : Prop where
  mk :: (out : pIsNilS op x K)
structure qEntry (x : AV) (h : AHeap) (K : AV → Prop) : Prop where
  mk :: (out : pEntry x h K)
structure qEqS (op : BinOp) (ds : List TypeDesc) (x y : AV) (K : AV → Prop) : Prop where
  mk :: (out : pEqS op ds x y K)
structure qMapUpdate (d : TypeDesc) (x key v : AV) (h : AHeap) (K : AHeap → Prop) : Prop where
  mk :: (out : eMapUpdate d x key v h K)
structure qMapEntry (d : TypeDesc) (z x key : AV) (h : AHeap) (K : QT) : Prop where
  mk :: (out : eMapEntry d z x key h K)
structure qEntryStore (x st v : AV) (h : AHeap) (K : AHeap → Prop) : Prop where
  mk :: (out : eEntryStore x st v h K)
structure qDelete (d : TypeDesc) (x key : AV) (h : AHeap) (K : AHeap → Prop) : Prop where
  mk :: (out : eDelete d x key h K)
structure qMakeMap (h : AHeap) (K : QT) : Prop where
  mk :: (out : eMakeMap h K)
structure qRangeS (x : AV) (h : AHeap) (K : QT) : Prop where
  mk :: (out : eRangeS x h K)
structure qNextS (x : AV) (h : AHeap) (K : QT) : Prop where
  mk :: (out : eNextS x h K)
structure qRangeM (x : AV) (h : AHeap) (K : QT) : Prop where
  mk :: (out : eRangeM x h K)
structure qNextM (x : AV) (h : AHeap) (K : QT) : Prop where
  mk :: (out : eNextM x h K)
structure qStrBytes (x : AV) (h : AHeap) (K : QT) : Prop where
  mk :: (out : eStrBytes x h K)
structure qMakeSlice (b : Nat) (z l c : AV) (h : AHeap) (K : QT) : Prop where
  mk :: (out : eMakeSlice b z l c h K)
theorem nilK_mono {K K' : AV → Prop} (hk : ∀ v, K v → K' v) (op : BinOp) (b : Bool) (k : nilK op b K) : nilK op b K' := by
  unfold nilK at *
  split at k <;> first | exact k.elim | exact hk _ k
theorem pLookup_mono {K K' : AV → Prop} (hk : ∀ v, K v → K' v) (d : TypeDesc) (ok : Bool) (z x key : AV) (h : AHeap) (k : pLookup d ok z x key h K) : pLookup d ok z x key h K' := by
  unfold pLookup at *
  (repeat' split at k) <;> first | exact k.elim | (simp_all; done) | (simp_all only []; exact hk _ k)
theorem qLookup_mono {K K' : AV → Prop} (hk : ∀ v, K v → K' v) (d : TypeDesc) (ok : Bool) (z x key : AV) (h : AHeap) (k : qLookup d ok z x key h K) : qLookup d ok z x key h K' := ⟨pLookup_mono hk d ok z x key h k.out⟩
theorem pBytesStr_mono {K K' : AV → Prop} (hk : ∀ v, K v → K' v) (x : AV) (h : AHeap) (k : pBytesStr x h K) : pBytesStr x h K' := by
  unfold pBytesStr at *
  (repeat' split at k) <;> first | exact k.elim | (simp_all; done) | (simp_all only []; exact hk _ k)
theorem qBytesStr_mono {K K' : AV → Prop} (hk : ∀ v, K v → K' v) (x : AV) (h : AHeap) (k : qBytesStr x h K) : qBytesStr x h K' := ⟨pBytesStr_mono hk x h k.out⟩
theorem pIsNilM_mono {K K' : AV → Prop} (hk : ∀ v, K v → K' v) (op : BinOp) (x : AV) (k : pIsNilM op x K) : pIsNilM op x K' := by
  unfold pIsNilM at *
  (repeat' split at k) <;> first | exact k.elim | (simp_all; done) | (simp_all only []; exact hk _ k)
theorem qIsNilM_mono {K K' : AV → Prop} (hk : ∀ v, K v → K' v) (op : BinOp) (x : AV) (k : qIsNilM op x K) : qIsNilM op x K' := ⟨pIsNilM_mono hk op x k.out⟩
theorem pIsNilI_mono {K K' : AV → Prop} (hk : ∀ v, K v → K' v) (op : BinOp) (x : AV) (k : pIsNilI op x K) : pIsNilI op x K' := by
  unfold pIsNilI at *
  (repeat' split at k) <;> first | exact k.elim | (simp_all; done) | (simp_all only []; exact hk _ k)
theorem qIsNilI_mono {K K' : AV → Prop} (hk : ∀ v, K v → K' v) (op : BinOp) (x : AV) (k : qIsNilI op x K) : qIsNilI op x K' := ⟨pIsNilI_mono hk op x k.out⟩
theorem pIsNilF_mono {K K' : AV → Prop} (hk : ∀ v, K v → K' v) (op : BinOp) (x : AV) (k : pIsNilF op x K) : pIsNilF op x K' := by
  unfold pIsNilF at *
  (repeat' split at k) <;> first | exact k.elim | (simp_all; done) | (simp_all only []; exact hk _ k)
theorem qIsNilF_mono {K K' : AV → Prop} (hk : ∀ v, K v → K' v) (op : BinOp) (x : AV) (k : qIsNilF op x K) : qIsNilF op x K' := ⟨pIsNilF_mono hk op x k.out⟩
theorem pIsNilS_mono {K K' : AV → Prop} (hk : ∀ v, K v → K' v) (op : BinOp) (x : AV) (k : pIsNilS op x K) : pIsNilS op x K' := by
  unfold pIsNilS at *
  split at k
  · exact nilK_mono hk _ _ k
  · split at k
    · rename_i h0; rw [if_pos h0]; exact ⟨nilK_mono hk _ _ k.1, nilK_mono hk _ _ k.2⟩
    · rename_i h0; rw [if_neg h0]; exact nilK_mono hk _ _ k
  · split at k
    · rename_i h0; rw [if_pos h0]; exact ⟨nilK_mono hk _ _ k.1, nilK_mono hk _ _ k.2⟩
    · rename_i h0; rw [if_neg h0]; exact nilK_mono hk _ _ k
  · exact k.elim
theorem qIsNilS_mono {K K' : AV → Prop} (hk : ∀ v, K v → K' v) (op : BinOp) (x : AV) (k : qIsNilS op x K) : qIsNilS op x K' := ⟨pIsNilS_mono hk op x k.out⟩
theorem pEntry_mono {K K' : AV → Prop} (hk : ∀ v, K v → K' v) (x : AV) (h : AHeap) (k : pEntry x h K) : pEntry x h K' := by
  unfold pEntry at *
  (repeat' split at k) <;> first | exact k.elim | (simp_all; done) | (simp_all only []; exact hk _ k)
theorem qEntry_mono {K K' : AV → Prop} (hk : ∀ v, K v → K' v) (x : AV) (h : AHeap) (k : qEntry x h K) : qEntry x h K' := ⟨pEntry_mono hk x h k.out⟩
theorem pEqS_mono {K K' : AV → Prop} (hk : ∀ v, K v → K' v) (op : BinOp) (ds : List TypeDesc) (x y : AV) (k : pEqS op ds x y K) : pEqS op ds x y K' := by
  unfold pEqS at *
  split at k
  · split at k
    · exact nilK_mono hk _ _ k
    · exact k.elim
  · exact k.elim
theorem qEqS_mono {K K' : AV → Prop} (hk : ∀ v, K v → K' v) (op : BinOp) (ds : List TypeDesc) (x y : AV) (k : qEqS op ds x y K) : qEqS op ds x y K' := ⟨pEqS_mono hk op ds x y k.out⟩
theorem eMapUpdate_mono {K K' : AHeap → Prop} (hk : ∀ v, K v → K' v) (d : TypeDesc) (x key v : AV) (h : AHeap) (k : eMapUpdate d x key v h K) : eMapUpdate d x key v h K' := by
  unfold eMapUpdate at *
  (repeat' split at k) <;> first | exact k.elim | exact hk _ k | (rw [if_pos ‹_›]; exact hk _ k) | (rw [if_neg ‹_›]; exact hk _ k) | (simp_all; done) | (simp only [*, if_true]; done) | (simp only [*, if_true]; exact hk _ k)
theorem qMapUpdate_mono {K K' : AHeap → Prop} (hk : ∀ v, K v → K' v) (d : TypeDesc) (x key v : AV) (h : AHeap) (k : qMapUpdate d x key v h K) : qMapUpdate d x key v h K' := ⟨eMapUpdate_mono hk d x key v h k.out⟩
theorem eMapEntry_mono {K K' : QT} (hk : ∀ v h, K v h → K' v h) (d : TypeDesc) (z x key : AV) (h : AHeap) (k : eMapEntry d z x key h K) : eMapEntry d z x key h K' := by
  unfold eMapEntry at *
  (repeat' split at k) <;> first | exact k.elim | exact hk _ _ k | (rw [if_pos ‹_›]; exact hk _ _ k) | (rw [if_neg ‹_›]; exact hk _ _ k) | (simp_all; done) | (simp only [*, if_true]; done) | (simp only [*, if_true]; exact hk _ _ k)
theorem qMapEntry_mono {K K' : QT} (hk : ∀ v h, K v h → K' v h) (d : TypeDesc) (z x key : AV) (h : AHeap) (k : qMapEntry d z x key h K) : qMapEntry d z x key h K' := ⟨eMapEntry_mono hk d z x key h k.out⟩
theorem eEntryStore_mono {K K' : AHeap → Prop} (hk : ∀ v, K v → K' v) (x st v : AV) (h : AHeap) (k : eEntryStore x st v h K) : eEntryStore x st v h K' := by
  unfold eEntryStore at *
  (repeat' split at k) <;> first | exact k.elim | exact hk _ k | (rw [if_pos ‹_›]; exact hk _ k) | (rw [if_neg ‹_›]; exact hk _ k) | (simp_all; done) | (simp only [*, if_true]; done) | (simp only [*, if_true]; exact hk _ k)
theorem qEntryStore_mono {K K' : AHeap → Prop} (hk : ∀ v, K v → K' v) (x st v : AV) (h : AHeap) (k : qEntryStore x st v h K) : qEntryStore x st v h K' := ⟨eEntryStore_mono hk x st v h k.out⟩
theorem eDelete_mono {K K' : AHeap → Prop} (hk : ∀ v, K v → K' v) (d : TypeDesc) (x key : AV) (h : AHeap) (k : eDelete d x key h K) : eDelete d x key h K' := by
  unfold eDelete at *
  (repeat' split at k) <;> first | exact k.elim | exact hk _ k | (rw [if_pos ‹_›]; exact hk _ k) | (rw [if_neg ‹_›]; exact hk _ k) | (simp_all; done) | (simp only [*, if_true]; done) | (simp only [*, if_true]; exact hk _ k)
theorem qDelete_mono {K K' : AHeap → Prop} (hk : ∀ v, K v → K' v) (d : TypeDesc) (x key : AV) (h : AHeap) (k : qDelete d x key h K) : qDelete d x key h K' := ⟨eDelete_mono hk d x key h k.out⟩
theorem eMakeMap_mono {K K' : QT} (hk : ∀ v h, K v h → K' v h) (h : AHeap) (k : eMakeMap h K) : eMakeMap h K' := by
  exact hk _ _ k
theorem qMakeMap_mono {K K' : QT} (hk : ∀ v h, K v h → K' v h) (h : AHeap) (k : qMakeMap h K) : qMakeMap h K' := ⟨eMakeMap_mono hk h k.out⟩
theorem eRangeS_mono {K K' : QT} (hk : ∀ v h, K v h → K' v h) (x : AV) (h : AHeap) (k : eRangeS x h K) : eRangeS x h K' := by
  unfold eRangeS at *
  (repeat' split at k) <;> first | exact k.elim | exact hk _ _ k | (rw [if_pos ‹_›]; exact hk _ _ k) | (rw [if_neg ‹_›]; exact hk _ _ k) | (simp_all; done) | (simp only [*, if_true]; done) | (simp only [*, if_true]; exact hk _ _ k)
theorem qRangeS_mono {K K' : QT} (hk : ∀ v h, K v h → K' v h) (x : AV) (h : AHeap) (k : qRangeS x h K) : qRangeS x h K' := ⟨eRangeS_mono hk x h k.out⟩
theorem eNextS_mono {K K' : QT} (hk : ∀ v h, K v h → K' v h) (x : AV) (h : AHeap) (k : eNextS x h K) : eNextS x h K' := by
  unfold eNextS at *
  (repeat' split at k) <;> first | exact k.elim | exact hk _ _ k | (rw [if_pos ‹_›]; exact hk _ _ k) | (rw [if_neg ‹_›]; exact hk _ _ k) | (simp_all; done) | (simp only [*, if_true]; done) | (simp only [*, if_true]; exact hk _ _ k)
theorem qNextS_mono {K K' : QT} (hk : ∀ v h, K v h → K' v h) (x : AV) (h : AHeap) (k : qNextS x h K) : qNextS x h K' := ⟨eNextS_mono hk x h k.out⟩
theorem eRangeM_mono {K K' : QT} (hk : ∀ v h, K v h → K' v h) (x : AV) (h : AHeap) (k : eRangeM x h K) : eRangeM x h K' := by
  unfold eRangeM at *
  (repeat' split at k) <;> first | exact k.elim | exact hk _ _ k | (rw [if_pos ‹_›]; exact hk _ _ k) | (rw [if_neg ‹_›]; exact hk _ _ k) | (simp_all; done) | (simp only [*, if_true]; done) | (simp only [*, if_true]; exact hk _ _ k)
theorem qRangeM_mono {K K' : QT} (hk : ∀ v h, K v h → K' v h) (x : AV) (h : AHeap) (k : qRangeM x h K) : qRangeM x h K' := ⟨eRangeM_mono hk x h k.out⟩
theorem eNextM_mono {K K' : QT} (hk : ∀ v h, K v h → K' v h) (x : AV) (h : AHeap) (k : eNextM x h K) : eNextM x h K' := by
  unfold eNextM at *
  split at k
  · split at k
    · exact hk _ _ k
    · split at k
      · exact ⟨k.1, fun a => hk _ _ (k.2.1 a), fun e he hs => hk _ _ (k.2.2 e he hs)⟩
      · exact k.elim
    · exact k.elim
  · exact k.elim
theorem qNextM_mono {K K' : QT} (hk : ∀ v h, K v h → K' v h) (x : AV) (h : AHeap) (k : qNextM x h K) : qNextM x h K' := ⟨eNextM_mono hk x h k.out⟩
theorem eStrBytes_mono {K K' : QT} (hk : ∀ v h, K v h → K' v h) (x : AV) (h : AHeap) (k : eStrBytes x h K) : eStrBytes x h K' := by
  unfold eStrBytes at *
  (repeat' split at k) <;> first | exact k.elim | exact hk _ _ k | (rw [if_pos ‹_›]; exact hk _ _ k) | (rw [if_neg ‹_›]; exact hk _ _ k) | (simp_all; done) | (simp only [*, if_true]; done) | (simp only [*, if_true]; exact hk _ _ k)
theorem qStrBytes_mono {K K' : QT} (hk : ∀ v h, K v h → K' v h) (x : AV) (h : AHeap) (k : qStrBytes x h K) : qStrBytes x h K' := ⟨eStrBytes_mono hk x h k.out⟩
theorem eMakeSlice_mono {K K' : QT} (hk : ∀ v h, K v h → K' v h) (b : Nat) (z l c : AV) (h : AHeap) (k : eMakeSlice b z l c h K) : eMakeSlice b z l c h K' := by
  unfold eMakeSlice at *
  split at k
  · exact ⟨k.1, hk _ _ k.2⟩
  · exact k.elim
theorem qMakeSlice_mono {K K' : QT} (hk : ∀ v h, K v h → K' v h) (b : Nat) (z l c : AV) (h : AHeap) (k : qMakeSlice b z l c h K) : qMakeSlice b z l c h K' := ⟨eMakeSlice_mono hk b z l c h k.out⟩
end
end Go.Proofs.YtiddcelpooenfaaGreatDoor.AL
