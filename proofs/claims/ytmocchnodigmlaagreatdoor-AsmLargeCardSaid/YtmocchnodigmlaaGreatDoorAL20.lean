import Derived.Test.YtmocchnodigmlaaGreatDoorAL19
set_option linter.all false
set_option autoImplicit true
set_option relaxedAutoImplicit true
set_option linter.unusedVariables false
set_option linter.unusedSimpArgs false
/-! The steps once more, to be run. -/
namespace Go.Proofs.YtmocchnodigmlaaGreatDoor.AL

def bBin (op : BinOp) (x y : AV) (K : AV → Bool) : Bool :=
  match x, y with
  | .lit a, .lit b => (match binLit op a b with | some r => K (.lit r) | none => false)
  | _, _ => false
def bBinB (op : BinOp) (x y : AV) (K : AV → Bool) : Bool :=
  match x, y with
  | .lit (.bool a), .lit (.bool b) => (match op with | .eql => K (B (a == b)) | .neq => K (B (!(a == b))) | _ => false)
  | _, _ => false
def bBinP (op : BinOp) (x y : AV) (K : AV → Bool) : Bool :=
  match x, y with
  | .ptr _ _, .lit (.pointer none) => (match op with | .eql => K (B false) | .neq => K (B true) | _ => false)
  | .lit (.pointer none), .lit (.pointer none) => (match op with | .eql => K (B true) | .neq => K (B false) | _ => false)
  | _, _ => false
def bUn (op : UnOp) (x : AV) (K : AV → Bool) : Bool :=
  match op, x with
  | .neg, .lit (.int k n) => K (.lit (.int k (k.wrap (0 - n))))
  | .xor, .lit (.int k n) => K (.lit (.int k (k.wrap ((BitVec.ofInt k.bits (if k.signed then -1 else k.max) ^^^ BitVec.ofInt k.bits n).toNat : Int))))
  | .not, .lit (.bool b) => K (B !b)
  | .neg, .lit (.float k b) => K (.lit (.float k (Op.negFloat k b)))
  | _, _ => false
def bConvII (kd : IntKind) (x : AV) (K : AV → Bool) : Bool := match x with | .lit (.int _ n) => K (.lit (.int kd (kd.wrap n))) | _ => false
def bConvIF (kd : FloatKind) (x : AV) (K : AV → Bool) : Bool := match x with | .lit (.int _ n) => K (.lit (.float kd (kd.nearest n))) | _ => false
def bConvSS (x : AV) (K : AV → Bool) : Bool := match x with | .lit (.string s) => K (S s) | _ => false
def bNil (v : AV) (K : AV → Bool) : Bool := match v with | .ptr i o => K (.ptr i o) | .cptr cs => K (.cptr cs) | .fn (.func f) fi ca => K (.fn (.func f) fi ca) | _ => false
def bFieldAddr (off : Nat) (v : AV) (K : AV → Bool) : Bool := match v with | .ptr i o => K (.ptr i (o + off)) | .cptr cs => K (.cptr (cs.drop off)) | _ => false
def bLoadA (n : Nat) (v : AV) (h : AHeap) (K : AV → Bool) : Bool := match aload h n v with | some l => K (.agg l) | none => false
def bLoad1 (v : AV) (h : AHeap) (K : AV → Bool) : Bool := match aload h 1 v with | some [a] => K a | _ => false
def bPartA (off n : Nat) (v : AV) (K : AV → Bool) : Bool := match v with | .agg cs => K (.agg ((cs.drop off).take n)) | _ => false
def bPart1 (off : Nat) (v : AV) (K : AV → Bool) : Bool := match v with | .agg cs => (match cs[off]? with | some a => K a | none => false) | _ => false
def bIndexS (v i : AV) (K : AV → Bool) : Bool := match v, i with | .lit (.string s), .lit (.int _ n) => decide (0 ≤ n ∧ n < s.size) && K (.lit (.int .u8 (bAt s n))) | _, _ => false
def bIndexAddr (size : Nat) (v i : AV) (K : AV → Bool) : Bool :=
  match asI i with
  | none => false
  | some n => match v with
    | .sl j off len sz => decide (0 ≤ n ∧ n < len ∧ sz = size) && K (.ptr j (off + n.toNat * size))
    | .snap m cs => decide (0 ≤ n ∧ n < m) && K (.cptr (cs.drop (n.toNat * size)))
    | .full m cs => decide (0 ≤ n ∧ n < m) && K (.cptr (cs.drop (n.toNat * size)))
    | _ => false
def bIndexAddrA (len size : Nat) (v i : AV) (K : AV → Bool) : Bool :=
  match asI i with
  | none => false
  | some n => match v with
    | .ptr j off => decide (0 ≤ n ∧ n < len) && K (.ptr j (off + n.toNat * size))
    | .cptr cs => decide (0 ≤ n ∧ n < len) && K (.cptr (cs.drop (n.toNat * size)))
    | _ => false
def bSliceS (v : AV) (lo hi : Option AV) (K : AV → Bool) : Bool :=
  match v with
  | .lit (.string s) => (match optI lo 0, optI hi s.size with
    | some l, some h => decide (0 ≤ l ∧ l ≤ h ∧ h ≤ s.size) && K (S (s.extract l.toNat h.toNat))
    | _, _ => false)
  | _ => false
def bSliceL (size : Nat) (v : AV) (lo hi : Option AV) (K : AV → Bool) : Bool :=
  match v with
  | .sl i off len sz => (match optI lo 0, optI hi len with
    | some l, some h => decide (0 ≤ l ∧ l ≤ h ∧ h ≤ len ∧ sz = size) && K (.sl i (off + l.toNat * size) (h.toNat - l.toNat) size)
    | _, _ => false)
  | .snap n cs => (match optI lo 0, optI hi n with
    | some l, some h => decide (0 ≤ l ∧ l ≤ h ∧ h ≤ n) && K (.snap (h.toNat - l.toNat) ((cs.drop (l.toNat * size)).take ((h.toNat - l.toNat) * size)))
    | _, _ => false)
  | .full n cs => (match optI lo 0, optI hi n with
    | some l, some h => decide (0 ≤ l ∧ l ≤ h ∧ h ≤ n) && K (.snap (h.toNat - l.toNat) ((cs.drop (l.toNat * size)).take ((h.toNat - l.toNat) * size)))
    | _, _ => false)
  | _ => false
def bSliceZ (v : AV) (K : AV → Bool) : Bool := match v with | .sl _ _ _ _ => K (.full 0 []) | .snap _ _ => K (.full 0 []) | .full _ _ => K (.full 0 []) | _ => false
def bExtract (i : Nat) (v : AV) (K : AV → Bool) : Bool := match v with | .tup vs => (match vs[i]? with | some a => K a | none => false) | _ => false
def bIface (t : TypeId) (v : AV) (K : AV → Bool) : Bool := K (.iface t v)
def bBuild (zs : List AV) (ps : List (Nat × Nat × AV)) (K : AV → Bool) : Bool := match fillL zs ps with | some cs => K (.agg cs) | none => false
def bNew (cs : List AV) (h : AHeap) (K : AV → AHeap → Bool) : Bool := K (.ptr h.length 0) (h ++ [.cells cs])
def bBuildSlice (n size : Nat) (vs : List AV) (K : AV → Bool) : Bool := decide (vs.length = n ∧ (vs.all fun v => !v.isTup && v.cells.length == size) = true) && K (.full n (vs.flatMap (·.cells)))
def bStore (n : Nat) (v u : AV) (h : AHeap) (K : AHeap → Bool) : Bool :=
  match v with
  | .ptr i o => (match h[i]? with
    | some (.cells cs) => decide (u.isTup = false ∧ u.cells.length = n ∧ u.cells.all AV.one = true ∧ o + n ≤ cs.length) && K (h.set i (.cells (splice cs o u.cells)))
    | _ => false)
  | _ => false
def bLookup (d : TypeDesc) (ok : Bool) (z x key : AV) (h : AHeap) (K : AV → Bool) : Bool :=
  match key with
  | .lit k => match x with
    | .lit (.map none) => if kOk d k = true then K (if ok then .tup [z, B false] else z) else false
    | .map i => match h[i]? with
      | some (.amap es _) => if (kOk d k && es.all fun e => kOk d e.1) = true then (match mfind k es 0 with
        | some (_, _, v) => K (if ok then .tup [v, B true] else v)
        | none => K (if ok then .tup [z, B false] else z)) else false
      | _ => false
    | _ => false
  | _ => false
def bMapUpdate (d : TypeDesc) (x key v : AV) (h : AHeap) (K : AHeap → Bool) : Bool :=
  match key, x with
  | .lit k, .map i => (match h[i]? with
    | some (.amap es clock) => if (kOk d k && es.all fun e => kOk d e.1) = true then K (h.set i (mput k v clock es)) else false
    | _ => false)
  | _, _ => false
def bMapEntry (d : TypeDesc) (z x key : AV) (h : AHeap) (K : AV → AHeap → Bool) : Bool :=
  match key, x with
  | .lit k, .map i => (match h[i]? with
    | some (.amap es clock) => if (kOk d k && es.all fun e => kOk d e.1) = true then (match mfind k es 0 with
      | some (_, n, v) => K (.tup [v, I n]) h
      | none => K (.tup [z, I clock]) (h.set i (.amap (es ++ [(k, clock, z)]) (clock + 1)))) else false
    | _ => false)
  | _, _ => false
def bEntryStore (x st v : AV) (h : AHeap) (K : AHeap → Bool) : Bool :=
  match st, x with
  | .lit (.int .i64 n), .map i => (match h[i]? with
    | some (.amap es clock) => (match bornAt n es 0 with
      | some (j, k, b) => K (h.set i (.amap (es.set j (k, b, v)) clock))
      | none => false)
    | _ => false)
  | _, _ => false
def bDelete (d : TypeDesc) (x key : AV) (h : AHeap) (K : AHeap → Bool) : Bool :=
  match key with
  | .lit k => match x with
    | .lit (.map none) => if kOk d k = true then K h else false
    | .map i => (match h[i]? with
      | some (.amap es clock) => if (kOk d k && es.all fun e => kOk d e.1) = true then (match mfind k es 0 with
        | some (j, _, _) => K (h.set i (.amap (es.eraseIdx j) clock))
        | none => K h) else false
      | _ => false)
    | _ => false
  | _ => false
def bMakeMap (h : AHeap) (K : AV → AHeap → Bool) : Bool := K (.map h.length) (h ++ [.amap [] 0])
def bRangeS (x : AV) (h : AHeap) (K : AV → AHeap → Bool) : Bool :=
  match x with
  | .lit (.string s) => K (.ptr h.length 0) (h ++ [.siter s 0])
  | _ => false
def bNextS (x : AV) (h : AHeap) (K : AV → AHeap → Bool) : Bool :=
  match x with
  | .ptr i 0 => (match h[i]? with
    | some (.siter s pos) => if pos < s.size then K (.tup [B true, I pos, .lit (.int .i32 (Utf8.decode s pos).1)]) (h.set i (.siter s (pos + (Utf8.decode s pos).2))) else K (.tup [B false]) h
    | _ => false)
  | _ => false
def bRangeM (x : AV) (h : AHeap) (K : AV → AHeap → Bool) : Bool :=
  match x with
  | .lit (.map none) => K (.ptr h.length 0) (h ++ [.miter none 0 [] 0])
  | .map i => (match h[i]? with
    | some (.amap es clock) => K (.ptr h.length 0) (h ++ [.miter (some i) clock [] clock])
    | _ => false)
  | _ => false
def bEntry (x : AV) (h : AHeap) (K : AV → Bool) : Bool :=
  match x with
  | .ptr i 0 => (match h[i]? with
    | some (.miter (some j) _ seen last) => (match h[j]?, seen.getLast? with
      | some (.amap es clock), some n => (match bornFind n es with
        | some (k, v) => if (k.oneCell' && clock == last) = true then K (.tup [.lit k, v]) else false
        | none => false)
      | _, _ => false)
    | _ => false)
  | _ => false
def bAppend (size bytes : Nat) (v x : AV) (h : AHeap) (K : AV → AHeap → Bool) : Bool :=
  match aElems h size x with
  | none => false
  | some (m, xs) => match v with
    | .full n cs => decide (cs.length = n * size ∧ (n + m) * bytes ≤ 1099511627776) && (if m = 0 then K (.full n cs) h else K (.sl h.length 0 (n + m) size) (h ++ [.cells (cs ++ xs)]))
    | .sl i off len sz => (match h[i]? with
      | some (.cells cs) => decide (sz = size ∧ off + len * size = cs.length ∧ xs.all AV.one = true ∧ (len + m) * bytes ≤ 1099511627776) && K (.sl h.length 0 (len + m) size) (h.set i .dead ++ [.cells (cs.drop off ++ xs)])
      | _ => false)
    | _ => false
def bBytesStr (x : AV) (h : AHeap) (K : AV → Bool) : Bool :=
  if isRow x = true then (match aElems h 1 x with
    | some (_, xs) => (match bytesOf xs with | some l => K (S ⟨l.toArray⟩) | none => false)
    | none => false) else false
def bStrBytes (x : AV) (h : AHeap) (K : AV → AHeap → Bool) : Bool :=
  match x with
  | .lit (.string s) => K (.sl h.length 0 s.size 1) (h ++ [.cells (s.data.toList.map fun b => .lit (.int .u8 b.toNat))])
  | _ => false
def bMakeSlice (bytes : Nat) (z l c : AV) (h : AHeap) (K : AV → AHeap → Bool) : Bool :=
  match l, c with
  | .lit (.int _ l), .lit (.int _ c) => decide (0 ≤ l ∧ l ≤ c ∧ (bytes : Int) * c ≤ 1099511627776 ∧ c ≤ 1099511627776) && K (.sl h.length 0 l.toNat 1) (h ++ [.cells (List.replicate c.toNat z)])
  | _, _ => false
def bIsNilM (op : BinOp) (x : AV) (K : AV → Bool) : Bool :=
  match op, x with
  | .eql, .map _ => K (B false)
  | .neq, .map _ => K (B true)
  | .eql, .lit (.map none) => K (B true)
  | .neq, .lit (.map none) => K (B false)
  | _, _ => false
def bIsNilI (op : BinOp) (x : AV) (K : AV → Bool) : Bool :=
  match op, x with
  | .eql, .iface _ _ => K (B false)
  | .neq, .iface _ _ => K (B true)
  | .eql, .lit .nilIface => K (B true)
  | .neq, .lit .nilIface => K (B false)
  | _, _ => false
def bIsNilF (op : BinOp) (x : AV) (K : AV → Bool) : Bool :=
  match op, x with
  | .eql, .fn _ _ _ => K (B false)
  | .neq, .fn _ _ _ => K (B true)
  | .eql, .lit .nilFunc => K (B true)
  | .neq, .lit .nilFunc => K (B false)
  | _, _ => false
def bilK (op : BinOp) (b : Bool) (K : AV → Bool) : Bool := match op with | .eql => K (B b) | .neq => K (B !b) | _ => false
def bIsNilS (op : BinOp) (x : AV) (K : AV → Bool) : Bool :=
  match x with
  | .sl _ _ _ _ => bilK op false K
  | .full n _ => if n = 0 then bilK op true K && bilK op false K else bilK op false K
  | .snap n _ => if n = 0 then bilK op true K && bilK op false K else bilK op false K
  | _ => false
def bEqS (op : BinOp) (ds : List TypeDesc) (x y : AV) (K : AV → Bool) : Bool :=
  match x, y with
  | .agg as, .agg bs => (match eqCells ds as bs with | some b => bilK op b K | none => false)
  | _, _ => false
def bLenS (v : AV) (K : AV → Bool) : Bool := match v with | .lit (.string s) => K (I s.size) | _ => false
def bLenL (v : AV) (K : AV → Bool) : Bool := match v with | .sl _ _ len _ => K (I len) | .snap n _ => K (I n) | .full n _ => K (I n) | _ => false
def bLenM (v : AV) (h : AHeap) (K : AV → Bool) : Bool := match v with | .map i => (match h[i]? with | some (.amap es _) => K (I es.length) | _ => false) | _ => false
def bBox (v : AV) (h : AHeap) (K : AV → AHeap → Bool) : Bool := decide (v.isTup = false) && bNew v.cells h K

def bMax (x y : AV) (K : AV → Bool) : Bool := match x, y with | .lit (.int k a), .lit (.int _ b) => K (.lit (.int k (if b > a then b else a))) | _, _ => false
def bMin (x y : AV) (K : AV → Bool) : Bool := match x, y with | .lit (.int k a), .lit (.int _ b) => K (.lit (.int k (if b < a then b else a))) | _, _ => false
def bNextM (x : AV) (h : AHeap) (K : AV → AHeap → Bool) : Bool :=
  match x with
  | .ptr i 0 => (match h[i]? with
    | some (.miter none _ _ _) => K (.tup [B false]) h
    | some (.miter (some j) since seen last) => (match h[j]? with
      | some (.amap es clock) =>
        decide ((es.all fun e => e.1.oneCell') = true ∧ (!seen.isEmpty && !es.isEmpty && es.all fun e => decide (e.2.1 ≥ last)) = false) &&
        ((!(es.all fun e => seen.contains e.2.1 || decide (since ≤ e.2.1)) || K (.tup [B false]) h) &&
        es.all fun e => seen.contains e.2.1 || K (.tup [B true, .lit e.1, e.2.2]) (h.set i (.miter (some j) since (seen ++ [e.2.1]) clock)))
      | _ => false)
    | _ => false)
  | _ => false
def ifBB (v : AV) (x y : Bool) : Bool := match v with | .lit (.bool true) => x | .lit (.bool false) => y | _ => false
theorem bilK_ok {K : AV → Bool} (op : BinOp) (b : Bool) (k : bilK op b K = true) : nilK op b (fun r => K r = true) := by
  unfold bilK at k
  unfold nilK
  (repeat' split at k) <;> first | (cases k; done) | exact k | (simp only [Bool.and_eq_true, decide_eq_true_eq] at k; exact k) | (rw [if_pos (by assumption)]; exact k) | (rw [if_neg (by assumption)]; exact k) | (simp only [*, ↓reduceIte, Bool.false_eq_true]; done) | (simp_all; done)
theorem bBin_ok {K : AV → Bool} (op : BinOp) (x y : AV) (k : bBin op x y K = true) : pBin op x y (fun r => K r = true) := by
  unfold bBin at k
  unfold pBin
  (repeat' split at k) <;> first | (cases k; done) | exact k | (simp only [Bool.and_eq_true, decide_eq_true_eq] at k; exact k) | (rw [if_pos (by assumption)]; exact k) | (rw [if_neg (by assumption)]; exact k) | (simp only [*, ↓reduceIte, Bool.false_eq_true]; done) | (simp_all; done)
theorem bBinB_ok {K : AV → Bool} (op : BinOp) (x y : AV) (k : bBinB op x y K = true) : pBinB op x y (fun r => K r = true) := by
  unfold bBinB at k
  unfold pBinB
  (repeat' split at k) <;> first | (cases k; done) | exact k | (simp only [Bool.and_eq_true, decide_eq_true_eq] at k; exact k) | (rw [if_pos (by assumption)]; exact k) | (rw [if_neg (by assumption)]; exact k) | (simp only [*, ↓reduceIte, Bool.false_eq_true]; done) | (simp_all; done)
theorem bBinP_ok {K : AV → Bool} (op : BinOp) (x y : AV) (k : bBinP op x y K = true) : pBinP op x y (fun r => K r = true) := by
  unfold bBinP at k
  unfold pBinP
  (repeat' split at k) <;> first | (cases k; done) | exact k | (simp only [Bool.and_eq_true, decide_eq_true_eq] at k; exact k) | (rw [if_pos (by assumption)]; exact k) | (rw [if_neg (by assumption)]; exact k) | (simp only [*, ↓reduceIte, Bool.false_eq_true]; done) | (simp_all; done)
theorem bUn_ok {K : AV → Bool} (op : UnOp) (x : AV) (k : bUn op x K = true) : pUn op x (fun r => K r = true) := by
  unfold bUn at k
  unfold pUn
  (repeat' split at k) <;> first | (cases k; done) | exact k | (simp only [Bool.and_eq_true, decide_eq_true_eq] at k; exact k) | (rw [if_pos (by assumption)]; exact k) | (rw [if_neg (by assumption)]; exact k) | (simp only [*, ↓reduceIte, Bool.false_eq_true]; done) | (simp_all; done)
theorem bConvII_ok {K : AV → Bool} (kd : IntKind) (x : AV) (k : bConvII kd x K = true) : pConvII kd x (fun r => K r = true) := by
  unfold bConvII at k
  unfold pConvII
  (repeat' split at k) <;> first | (cases k; done) | exact k | (simp only [Bool.and_eq_true, decide_eq_true_eq] at k; exact k) | (rw [if_pos (by assumption)]; exact k) | (rw [if_neg (by assumption)]; exact k) | (simp only [*, ↓reduceIte, Bool.false_eq_true]; done) | (simp_all; done)
theorem bConvIF_ok {K : AV → Bool} (kd : FloatKind) (x : AV) (k : bConvIF kd x K = true) : pConvIF kd x (fun r => K r = true) := by
  unfold bConvIF at k
  unfold pConvIF
  (repeat' split at k) <;> first | (cases k; done) | exact k | (simp only [Bool.and_eq_true, decide_eq_true_eq] at k; exact k) | (rw [if_pos (by assumption)]; exact k) | (rw [if_neg (by assumption)]; exact k) | (simp only [*, ↓reduceIte, Bool.false_eq_true]; done) | (simp_all; done)
theorem bConvSS_ok {K : AV → Bool} (x : AV) (k : bConvSS x K = true) : pConvSS x (fun r => K r = true) := by
  unfold bConvSS at k
  unfold pConvSS
  (repeat' split at k) <;> first | (cases k; done) | exact k | (simp only [Bool.and_eq_true, decide_eq_true_eq] at k; exact k) | (rw [if_pos (by assumption)]; exact k) | (rw [if_neg (by assumption)]; exact k) | (simp only [*, ↓reduceIte, Bool.false_eq_true]; done) | (simp_all; done)
theorem bNil_ok {K : AV → Bool} (v : AV) (k : bNil v K = true) : pNil v (fun r => K r = true) := by
  unfold bNil at k
  unfold pNil
  (repeat' split at k) <;> first | (cases k; done) | exact k | (simp only [Bool.and_eq_true, decide_eq_true_eq] at k; exact k) | (rw [if_pos (by assumption)]; exact k) | (rw [if_neg (by assumption)]; exact k) | (simp only [*, ↓reduceIte, Bool.false_eq_true]; done) | (simp_all; done)
theorem bFieldAddr_ok {K : AV → Bool} (off : Nat) (v : AV) (k : bFieldAddr off v K = true) : pFieldAddr off v (fun r => K r = true) := by
  unfold bFieldAddr at k
  unfold pFieldAddr
  (repeat' split at k) <;> first | (cases k; done) | exact k | (simp only [Bool.and_eq_true, decide_eq_true_eq] at k; exact k) | (rw [if_pos (by assumption)]; exact k) | (rw [if_neg (by assumption)]; exact k) | (simp only [*, ↓reduceIte, Bool.false_eq_true]; done) | (simp_all; done)
theorem bLoadA_ok {K : AV → Bool} (n : Nat) (v : AV) (h : AHeap) (k : bLoadA n v h K = true) : pLoadA n v h (fun r => K r = true) := by
  unfold bLoadA at k
  unfold pLoadA
  (repeat' split at k) <;> first | (cases k; done) | exact k | (simp only [Bool.and_eq_true, decide_eq_true_eq] at k; exact k) | (rw [if_pos (by assumption)]; exact k) | (rw [if_neg (by assumption)]; exact k) | (simp only [*, ↓reduceIte, Bool.false_eq_true]; done) | (simp_all; done)
theorem bLoad1_ok {K : AV → Bool} (v : AV) (h : AHeap) (k : bLoad1 v h K = true) : pLoad1 v h (fun r => K r = true) := by
  unfold bLoad1 at k
  unfold pLoad1
  (repeat' split at k) <;> first | (cases k; done) | exact k | (simp only [Bool.and_eq_true, decide_eq_true_eq] at k; exact k) | (rw [if_pos (by assumption)]; exact k) | (rw [if_neg (by assumption)]; exact k) | (simp only [*, ↓reduceIte, Bool.false_eq_true]; done) | (simp_all; done)
theorem bPartA_ok {K : AV → Bool} (off n : Nat) (v : AV) (k : bPartA off n v K = true) : pPartA off n v (fun r => K r = true) := by
  unfold bPartA at k
  unfold pPartA
  (repeat' split at k) <;> first | (cases k; done) | exact k | (simp only [Bool.and_eq_true, decide_eq_true_eq] at k; exact k) | (rw [if_pos (by assumption)]; exact k) | (rw [if_neg (by assumption)]; exact k) | (simp only [*, ↓reduceIte, Bool.false_eq_true]; done) | (simp_all; done)
theorem bPart1_ok {K : AV → Bool} (off : Nat) (v : AV) (k : bPart1 off v K = true) : pPart1 off v (fun r => K r = true) := by
  unfold bPart1 at k
  unfold pPart1
  (repeat' split at k) <;> first | (cases k; done) | exact k | (simp only [Bool.and_eq_true, decide_eq_true_eq] at k; exact k) | (rw [if_pos (by assumption)]; exact k) | (rw [if_neg (by assumption)]; exact k) | (simp only [*, ↓reduceIte, Bool.false_eq_true]; done) | (simp_all; done)
theorem bIndexS_ok {K : AV → Bool} (v i : AV) (k : bIndexS v i K = true) : pIndexS v i (fun r => K r = true) := by
  unfold bIndexS at k
  unfold pIndexS
  (repeat' split at k) <;> first | (cases k; done) | exact k | (simp only [Bool.and_eq_true, decide_eq_true_eq] at k; exact k) | (rw [if_pos (by assumption)]; exact k) | (rw [if_neg (by assumption)]; exact k) | (simp only [*, ↓reduceIte, Bool.false_eq_true]; done) | (simp_all; done)
theorem bIndexAddr_ok {K : AV → Bool} (size : Nat) (v i : AV) (k : bIndexAddr size v i K = true) : pIndexAddr size v i (fun r => K r = true) := by
  unfold bIndexAddr at k
  unfold pIndexAddr
  (repeat' split at k) <;> first | (cases k; done) | exact k | (simp only [Bool.and_eq_true, decide_eq_true_eq] at k; exact k) | (rw [if_pos (by assumption)]; exact k) | (rw [if_neg (by assumption)]; exact k) | (simp only [*, ↓reduceIte, Bool.false_eq_true]; done) | (simp_all; done)
theorem bIndexAddrA_ok {K : AV → Bool} (len size : Nat) (v i : AV) (k : bIndexAddrA len size v i K = true) : pIndexAddrA len size v i (fun r => K r = true) := by
  unfold bIndexAddrA at k
  unfold pIndexAddrA
  (repeat' split at k) <;> first | (cases k; done) | exact k | (simp only [Bool.and_eq_true, decide_eq_true_eq] at k; exact k) | (rw [if_pos (by assumption)]; exact k) | (rw [if_neg (by assumption)]; exact k) | (simp only [*, ↓reduceIte, Bool.false_eq_true]; done) | (simp_all; done)
theorem bSliceS_ok {K : AV → Bool} (v : AV) (lo hi : Option AV) (k : bSliceS v lo hi K = true) : pSliceS v lo hi (fun r => K r = true) := by
  unfold bSliceS at k
  unfold pSliceS
  (repeat' split at k) <;> first | (cases k; done) | exact k | (simp only [Bool.and_eq_true, decide_eq_true_eq] at k; exact k) | (rw [if_pos (by assumption)]; exact k) | (rw [if_neg (by assumption)]; exact k) | (simp only [*, ↓reduceIte, Bool.false_eq_true]; done) | (simp_all; done)
theorem bSliceL_ok {K : AV → Bool} (size : Nat) (v : AV) (lo hi : Option AV) (k : bSliceL size v lo hi K = true) : pSliceL size v lo hi (fun r => K r = true) := by
  unfold bSliceL at k
  unfold pSliceL
  (repeat' split at k) <;> first | (cases k; done) | exact k | (simp only [Bool.and_eq_true, decide_eq_true_eq] at k; exact k) | (rw [if_pos (by assumption)]; exact k) | (rw [if_neg (by assumption)]; exact k) | (simp only [*, ↓reduceIte, Bool.false_eq_true]; done) | (simp_all; done)
theorem bSliceZ_ok {K : AV → Bool} (v : AV) (k : bSliceZ v K = true) : pSliceZ v (fun r => K r = true) := by
  unfold bSliceZ at k
  unfold pSliceZ
  (repeat' split at k) <;> first | (cases k; done) | exact k | (simp only [Bool.and_eq_true, decide_eq_true_eq] at k; exact k) | (rw [if_pos (by assumption)]; exact k) | (rw [if_neg (by assumption)]; exact k) | (simp only [*, ↓reduceIte, Bool.false_eq_true]; done) | (simp_all; done)
theorem bExtract_ok {K : AV → Bool} (i : Nat) (v : AV) (k : bExtract i v K = true) : pExtract i v (fun r => K r = true) := by
  unfold bExtract at k
  unfold pExtract
  (repeat' split at k) <;> first | (cases k; done) | exact k | (simp only [Bool.and_eq_true, decide_eq_true_eq] at k; exact k) | (rw [if_pos (by assumption)]; exact k) | (rw [if_neg (by assumption)]; exact k) | (simp only [*, ↓reduceIte, Bool.false_eq_true]; done) | (simp_all; done)
theorem bIface_ok {K : AV → Bool} (t : TypeId) (v : AV) (k : bIface t v K = true) : pIface t v (fun r => K r = true) := by
  unfold bIface at k
  unfold pIface
  (repeat' split at k) <;> first | (cases k; done) | exact k | (simp only [Bool.and_eq_true, decide_eq_true_eq] at k; exact k) | (rw [if_pos (by assumption)]; exact k) | (rw [if_neg (by assumption)]; exact k) | (simp only [*, ↓reduceIte, Bool.false_eq_true]; done) | (simp_all; done)
theorem bBuild_ok {K : AV → Bool} (zs : List AV) (ps : List (Nat × Nat × AV)) (k : bBuild zs ps K = true) : pBuild zs ps (fun r => K r = true) := by
  unfold bBuild at k
  unfold pBuild
  (repeat' split at k) <;> first | (cases k; done) | exact k | (simp only [Bool.and_eq_true, decide_eq_true_eq] at k; exact k) | (rw [if_pos (by assumption)]; exact k) | (rw [if_neg (by assumption)]; exact k) | (simp only [*, ↓reduceIte, Bool.false_eq_true]; done) | (simp_all; done)
theorem bNew_ok {K : AV → AHeap → Bool} (cs : List AV) (h : AHeap) (k : bNew cs h K = true) : eNew cs h (fun r h => K r h = true) := by
  unfold bNew at k
  unfold eNew
  (repeat' split at k) <;> first | (cases k; done) | exact k | (simp only [Bool.and_eq_true, decide_eq_true_eq] at k; exact k) | (rw [if_pos (by assumption)]; exact k) | (rw [if_neg (by assumption)]; exact k) | (simp only [*, ↓reduceIte, Bool.false_eq_true]; done) | (simp_all; done)
theorem bBuildSlice_ok {K : AV → Bool} (n size : Nat) (vs : List AV) (k : bBuildSlice n size vs K = true) : pBuildSlice n size vs (fun r => K r = true) := by
  unfold bBuildSlice at k
  unfold pBuildSlice
  (repeat' split at k) <;> first | (cases k; done) | exact k | (simp only [Bool.and_eq_true, decide_eq_true_eq] at k; exact k) | (rw [if_pos (by assumption)]; exact k) | (rw [if_neg (by assumption)]; exact k) | (simp only [*, ↓reduceIte, Bool.false_eq_true]; done) | (simp_all; done)
theorem bStore_ok {K : AHeap → Bool} (n : Nat) (v u : AV) (h : AHeap) (k : bStore n v u h K = true) : eStore n v u h (fun h => K h = true) := by
  unfold bStore at k
  unfold eStore
  (repeat' split at k) <;> first | (cases k; done) | exact k | (simp only [Bool.and_eq_true, decide_eq_true_eq] at k; exact k) | (rw [if_pos (by assumption)]; exact k) | (rw [if_neg (by assumption)]; exact k) | (simp only [*, ↓reduceIte, Bool.false_eq_true]; done) | (simp_all; done)
theorem bLookup_ok {K : AV → Bool} (d : TypeDesc) (ok : Bool) (z x key : AV) (h : AHeap) (k : bLookup d ok z x key h K = true) : pLookup d ok z x key h (fun r => K r = true) := by
  unfold bLookup at k
  unfold pLookup
  split at k
  · split at k
    · split at k
      · rename_i hc; simp only [if_pos hc]; exact k
      · cases k
    · split at k
      · rename_i hes
        split at k
        · rename_i hc
          simp only [hes, if_pos hc]
          split at k
          · rename_i hm; simp only [hm]; exact k
          · rename_i hm; simp only [hm]; exact k
        · cases k
      · cases k
    · cases k
  · cases k
theorem bMapUpdate_ok {K : AHeap → Bool} (d : TypeDesc) (x key v : AV) (h : AHeap) (k : bMapUpdate d x key v h K = true) : eMapUpdate d x key v h (fun h => K h = true) := by
  unfold bMapUpdate at k
  unfold eMapUpdate
  (repeat' split at k) <;> first | (cases k; done) | exact k | (simp only [Bool.and_eq_true, decide_eq_true_eq] at k; exact k) | (rw [if_pos (by assumption)]; exact k) | (rw [if_neg (by assumption)]; exact k) | (simp only [*, ↓reduceIte, Bool.false_eq_true]; done) | (simp_all; done)
theorem bMapEntry_ok {K : AV → AHeap → Bool} (d : TypeDesc) (z x key : AV) (h : AHeap) (k : bMapEntry d z x key h K = true) : eMapEntry d z x key h (fun r h => K r h = true) := by
  unfold bMapEntry at k
  unfold eMapEntry
  (repeat' split at k) <;> first | (cases k; done) | exact k | (simp only [Bool.and_eq_true, decide_eq_true_eq] at k; exact k) | (rw [if_pos (by assumption)]; exact k) | (rw [if_neg (by assumption)]; exact k) | (simp only [*, ↓reduceIte, Bool.false_eq_true]; done) | (simp_all; done)
theorem bEntryStore_ok {K : AHeap → Bool} (x st v : AV) (h : AHeap) (k : bEntryStore x st v h K = true) : eEntryStore x st v h (fun h => K h = true) := by
  unfold bEntryStore at k
  unfold eEntryStore
  (repeat' split at k) <;> first | (cases k; done) | exact k | (simp only [Bool.and_eq_true, decide_eq_true_eq] at k; exact k) | (rw [if_pos (by assumption)]; exact k) | (rw [if_neg (by assumption)]; exact k) | (simp only [*, ↓reduceIte, Bool.false_eq_true]; done) | (simp_all; done)
theorem bDelete_ok {K : AHeap → Bool} (d : TypeDesc) (x key : AV) (h : AHeap) (k : bDelete d x key h K = true) : eDelete d x key h (fun h => K h = true) := by
  unfold bDelete at k
  unfold eDelete
  (repeat' split at k) <;> first | (cases k; done) | exact k | (simp only [Bool.and_eq_true, decide_eq_true_eq] at k; exact k) | (rw [if_pos (by assumption)]; exact k) | (rw [if_neg (by assumption)]; exact k) | (simp only [*, ↓reduceIte, Bool.false_eq_true]; done) | (simp_all; done)
theorem bMakeMap_ok {K : AV → AHeap → Bool} (h : AHeap) (k : bMakeMap h K = true) : eMakeMap h (fun r h => K r h = true) := by
  unfold bMakeMap at k
  unfold eMakeMap
  (repeat' split at k) <;> first | (cases k; done) | exact k | (simp only [Bool.and_eq_true, decide_eq_true_eq] at k; exact k) | (rw [if_pos (by assumption)]; exact k) | (rw [if_neg (by assumption)]; exact k) | (simp only [*, ↓reduceIte, Bool.false_eq_true]; done) | (simp_all; done)
theorem bRangeS_ok {K : AV → AHeap → Bool} (x : AV) (h : AHeap) (k : bRangeS x h K = true) : eRangeS x h (fun r h => K r h = true) := by
  unfold bRangeS at k
  unfold eRangeS
  (repeat' split at k) <;> first | (cases k; done) | exact k | (simp only [Bool.and_eq_true, decide_eq_true_eq] at k; exact k) | (rw [if_pos (by assumption)]; exact k) | (rw [if_neg (by assumption)]; exact k) | (simp only [*, ↓reduceIte, Bool.false_eq_true]; done) | (simp_all; done)
theorem bNextS_ok {K : AV → AHeap → Bool} (x : AV) (h : AHeap) (k : bNextS x h K = true) : eNextS x h (fun r h => K r h = true) := by
  unfold bNextS at k
  unfold eNextS
  (repeat' split at k) <;> first | (cases k; done) | exact k | (simp only [Bool.and_eq_true, decide_eq_true_eq] at k; exact k) | (rw [if_pos (by assumption)]; exact k) | (rw [if_neg (by assumption)]; exact k) | (simp only [*, ↓reduceIte, Bool.false_eq_true]; done) | (simp_all; done)
theorem bRangeM_ok {K : AV → AHeap → Bool} (x : AV) (h : AHeap) (k : bRangeM x h K = true) : eRangeM x h (fun r h => K r h = true) := by
  unfold bRangeM at k
  unfold eRangeM
  (repeat' split at k) <;> first | (cases k; done) | exact k | (simp only [Bool.and_eq_true, decide_eq_true_eq] at k; exact k) | (rw [if_pos (by assumption)]; exact k) | (rw [if_neg (by assumption)]; exact k) | (simp only [*, ↓reduceIte, Bool.false_eq_true]; done) | (simp_all; done)
theorem bEntry_ok {K : AV → Bool} (x : AV) (h : AHeap) (k : bEntry x h K = true) : pEntry x h (fun r => K r = true) := by
  unfold bEntry at k
  unfold pEntry
  (repeat' split at k) <;> first | (cases k; done) | exact k | (simp only [Bool.and_eq_true, decide_eq_true_eq] at k; exact k) | (rw [if_pos (by assumption)]; exact k) | (rw [if_neg (by assumption)]; exact k) | (simp only [*, ↓reduceIte, Bool.false_eq_true]; done) | (simp_all; done)
theorem bAppend_ok {K : AV → AHeap → Bool} (size bytes : Nat) (v x : AV) (h : AHeap) (k : bAppend size bytes v x h K = true) : eAppend size bytes v x h (fun r h => K r h = true) := by
  unfold bAppend at k
  unfold eAppend
  (repeat' split at k) <;> first | (cases k; done) | exact k | (simp only [Bool.and_eq_true, decide_eq_true_eq] at k; exact k) | (rw [if_pos (by assumption)]; exact k) | (rw [if_neg (by assumption)]; exact k) | (simp only [*, ↓reduceIte, Bool.false_eq_true]; done) | (simp_all; done)
theorem bBytesStr_ok {K : AV → Bool} (x : AV) (h : AHeap) (k : bBytesStr x h K = true) : pBytesStr x h (fun r => K r = true) := by
  unfold bBytesStr at k
  unfold pBytesStr
  (repeat' split at k) <;> first | (cases k; done) | exact k | (simp only [Bool.and_eq_true, decide_eq_true_eq] at k; exact k) | (rw [if_pos (by assumption)]; exact k) | (rw [if_neg (by assumption)]; exact k) | (simp only [*, ↓reduceIte, Bool.false_eq_true]; done) | (simp_all; done)
theorem bStrBytes_ok {K : AV → AHeap → Bool} (x : AV) (h : AHeap) (k : bStrBytes x h K = true) : eStrBytes x h (fun r h => K r h = true) := by
  unfold bStrBytes at k
  unfold eStrBytes
  (repeat' split at k) <;> first | (cases k; done) | exact k | (simp only [Bool.and_eq_true, decide_eq_true_eq] at k; exact k) | (rw [if_pos (by assumption)]; exact k) | (rw [if_neg (by assumption)]; exact k) | (simp only [*, ↓reduceIte, Bool.false_eq_true]; done) | (simp_all; done)
theorem bMakeSlice_ok {K : AV → AHeap → Bool} (bytes : Nat) (z l c : AV) (h : AHeap) (k : bMakeSlice bytes z l c h K = true) : eMakeSlice bytes z l c h (fun r h => K r h = true) := by
  unfold bMakeSlice at k
  unfold eMakeSlice
  (repeat' split at k) <;> first | (cases k; done) | exact k | (simp only [Bool.and_eq_true, decide_eq_true_eq] at k; exact k) | (rw [if_pos (by assumption)]; exact k) | (rw [if_neg (by assumption)]; exact k) | (simp only [*, ↓reduceIte, Bool.false_eq_true]; done) | (simp_all; done)
theorem bIsNilM_ok {K : AV → Bool} (op : BinOp) (x : AV) (k : bIsNilM op x K = true) : pIsNilM op x (fun r => K r = true) := by
  unfold bIsNilM at k
  unfold pIsNilM
  (repeat' split at k) <;> first | (cases k; done) | exact k | (simp only [Bool.and_eq_true, decide_eq_true_eq] at k; exact k) | (rw [if_pos (by assumption)]; exact k) | (rw [if_neg (by assumption)]; exact k) | (simp only [*, ↓reduceIte, Bool.false_eq_true]; done) | (simp_all; done)
theorem bIsNilI_ok {K : AV → Bool} (op : BinOp) (x : AV) (k : bIsNilI op x K = true) : pIsNilI op x (fun r => K r = true) := by
  unfold bIsNilI at k
  unfold pIsNilI
  (repeat' split at k) <;> first | (cases k; done) | exact k | (simp only [Bool.and_eq_true, decide_eq_true_eq] at k; exact k) | (rw [if_pos (by assumption)]; exact k) | (rw [if_neg (by assumption)]; exact k) | (simp only [*, ↓reduceIte, Bool.false_eq_true]; done) | (simp_all; done)
theorem bIsNilF_ok {K : AV → Bool} (op : BinOp) (x : AV) (k : bIsNilF op x K = true) : pIsNilF op x (fun r => K r = true) := by
  unfold bIsNilF at k
  unfold pIsNilF
  (repeat' split at k) <;> first | (cases k; done) | exact k | (simp only [Bool.and_eq_true, decide_eq_true_eq] at k; exact k) | (rw [if_pos (by assumption)]; exact k) | (rw [if_neg (by assumption)]; exact k) | (simp only [*, ↓reduceIte, Bool.false_eq_true]; done) | (simp_all; done)
theorem bIsNilS_ok {K : AV → Bool} (op : BinOp) (x : AV) (k : bIsNilS op x K = true) : pIsNilS op x (fun r => K r = true) := by
  unfold bIsNilS at k
  unfold pIsNilS
  split at k
  · exact bilK_ok _ _ k
  · split at k
    · rename_i h0; simp only [if_pos h0]; simp only [Bool.and_eq_true] at k; exact ⟨bilK_ok _ _ k.1, bilK_ok _ _ k.2⟩
    · rename_i h0; simp only [if_neg h0]; exact bilK_ok _ _ k
  · split at k
    · rename_i h0; simp only [if_pos h0]; simp only [Bool.and_eq_true] at k; exact ⟨bilK_ok _ _ k.1, bilK_ok _ _ k.2⟩
    · rename_i h0; simp only [if_neg h0]; exact bilK_ok _ _ k
  · cases k
theorem bEqS_ok {K : AV → Bool} (op : BinOp) (ds : List TypeDesc) (x y : AV) (k : bEqS op ds x y K = true) : pEqS op ds x y (fun r => K r = true) := by
  unfold bEqS at k
  unfold pEqS
  split at k
  · split at k
    · rename_i hm; simp only [hm]; exact bilK_ok _ _ k
    · cases k
  · cases k
theorem bLenS_ok {K : AV → Bool} (v : AV) (k : bLenS v K = true) : pLenS v (fun r => K r = true) := by
  unfold bLenS at k
  unfold pLenS
  (repeat' split at k) <;> first | (cases k; done) | exact k | (simp only [Bool.and_eq_true, decide_eq_true_eq] at k; exact k) | (rw [if_pos (by assumption)]; exact k) | (rw [if_neg (by assumption)]; exact k) | (simp only [*, ↓reduceIte, Bool.false_eq_true]; done) | (simp_all; done)
theorem bLenL_ok {K : AV → Bool} (v : AV) (k : bLenL v K = true) : pLenL v (fun r => K r = true) := by
  unfold bLenL at k
  unfold pLenL
  (repeat' split at k) <;> first | (cases k; done) | exact k | (simp only [Bool.and_eq_true, decide_eq_true_eq] at k; exact k) | (rw [if_pos (by assumption)]; exact k) | (rw [if_neg (by assumption)]; exact k) | (simp only [*, ↓reduceIte, Bool.false_eq_true]; done) | (simp_all; done)
theorem bLenM_ok {K : AV → Bool} (v : AV) (h : AHeap) (k : bLenM v h K = true) : pLenM v h (fun r => K r = true) := by
  unfold bLenM at k
  unfold pLenM
  (repeat' split at k) <;> first | (cases k; done) | exact k | (simp only [Bool.and_eq_true, decide_eq_true_eq] at k; exact k) | (rw [if_pos (by assumption)]; exact k) | (rw [if_neg (by assumption)]; exact k) | (simp only [*, ↓reduceIte, Bool.false_eq_true]; done) | (simp_all; done)
theorem bBox_ok {K : AV → AHeap → Bool} (v : AV) (h : AHeap) (k : bBox v h K = true) : eBox v h (fun r h => K r h = true) := by
  simp only [bBox, Bool.and_eq_true, decide_eq_true_eq] at k
  exact k
theorem bMax_ok {K : AV → Bool} (x y : AV) (k : bMax x y K = true) : pMax x y (fun r => K r = true) := by
  unfold bMax at k
  unfold pMax
  (repeat' split at k) <;> first | (cases k; done) | exact k | (simp only [Bool.and_eq_true, decide_eq_true_eq] at k; exact k) | (rw [if_pos (by assumption)]; exact k) | (rw [if_neg (by assumption)]; exact k) | (simp only [*, ↓reduceIte, Bool.false_eq_true]; done) | (simp_all; done)
theorem bMin_ok {K : AV → Bool} (x y : AV) (k : bMin x y K = true) : pMin x y (fun r => K r = true) := by
  unfold bMin at k
  unfold pMin
  (repeat' split at k) <;> first | (cases k; done) | exact k | (simp only [Bool.and_eq_true, decide_eq_true_eq] at k; exact k) | (rw [if_pos (by assumption)]; exact k) | (rw [if_neg (by assumption)]; exact k) | (simp only [*, ↓reduceIte, Bool.false_eq_true]; done) | (simp_all; done)
theorem bNextM_ok {K : AV → AHeap → Bool} (x : AV) (h : AHeap) (k : bNextM x h K = true) : eNextM x h (fun r h => K r h = true) := by
  unfold bNextM at k
  unfold eNextM
  split at k
  · split at k
    · rename_i hes; simp only [hes]; exact k
    · rename_i hes
      split at k
      · rename_i hm
        simp only [hes, hm]
        simp only [Bool.and_eq_true, decide_eq_true_eq, Bool.or_eq_true, Bool.not_eq_true', List.all_eq_true, List.all_eq_false] at k
        obtain ⟨k0, k1, k2⟩ := k
        refine ⟨⟨List.all_eq_true.2 k0.1, k0.2⟩, fun ha => ?_, fun e he hs => ?_⟩
        · rcases k1 with ⟨x, hx, hn⟩ | k1
          · exfalso
            rcases ha x hx with h1 | h1
            · exact hn (by simp [h1])
            · exact hn (by simp [h1])
          · exact k1
        · rcases k2 e he with h1 | h1
          · exact (hs (by simpa using h1)).elim
          · exact h1
      · cases k
    · cases k
  · cases k
end Go.Proofs.YtmocchnodigmlaaGreatDoor.AL
