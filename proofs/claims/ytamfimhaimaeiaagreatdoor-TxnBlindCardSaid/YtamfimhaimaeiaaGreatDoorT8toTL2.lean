import Derived.Test.YtamfimhaimaeiaaGreatDoorAI4toSI
import Derived.Test.YtamfimhaimaeiaaGreatDoorRTtoAI2
import Derived.Sort.Grow
import Derived.Sort.EncStr
import Derived.Test.YtamfimhaimaeiaaGreatDoorSPK
import Derived.Shelf.SortM.Plain
import Derived.Shelf.SortM.SortNone
import Derived.KernelRfl
set_option linter.all false
set_option autoImplicit true
set_option relaxedAutoImplicit true
set_option maxRecDepth 100000
namespace Go.Proofs.YtamfimhaimaeiaaGreatDoor.AL
noncomputable section
def withM (l : List Str) (x : Str) : List Str := sortL (l ++ [x])
def AdjNe (l : List Str) : Prop := ∀ q (h : q + 1 < l.length), l[q]'(by omega) ≠ l[q + 1]
section
variable [Tabs]
variable {h0 h : AHeap} {M : List Nat} {L R : Own} {K : AV → Prop} {Q : QT}
def SortOk : Prop := ∀ (h : AHeap) (j : Nat) (l : List Str) (Q : QT), h[j]? = some (.cells (l.flatMap nmE)) → l.length < 1000000 → Q (.tup []) (h.set j (.cells ((sortL l).flatMap nmE))) → C fn_slices_Sort__string_string [.sl j 0 l.length 1] h Q
theorem compact_sp {l : List Str} {j : Nat} (hl : l.length < 1000000) (ha : AdjNe l) (hj : h[j]? = some (.cells (l.flatMap nmE))) (q : Q (.sl j 0 l.length 1) h) : C fn_slices_Compact__string_string [.sl j 0 l.length 1] h Q := by
  refine slices_Compact__string_string_ok _ _ _ ?_
  unfold slices_Compact__string_string
  have r : Row nmE 1 h (.sl j 0 l.length 1) l := Row.sl (enc := nmE) (sz := 1) (fun _ => rfl) hj
  refine r.len (st_lss ?_)
  refine st_if (fun hb => ?_) (fun hb => ?_) <;> simp only [za, zb, zc, zd, ze, zf, zg, zh, zi, u8i, zj, zk, zl] at hb
  · exact q
  · refine st_loop (fun n vs h' => ∃ (p : Nat) (v : AV), vs = [v, I ((p : Nat) + 1)] ∧ n + p = l.length ∧ h' = h) l.length ⟨0, _, rfl, rfl, rfl⟩ ?_
    rintro n vs h1 ⟨p, v, rfl, hn, rfl⟩
    unfold slices_Compact__string_string_l7
    refine r.len (st_lss ?_)
    refine st_if (fun hc => ?_) (fun hc => ?_) <;> simp only [za, zb, zc, zd, ze, zf, zg, zh, zi, u8i, zj, zk, zl] at hc
    · have hp : p + 1 < l.length := by omega
      rw [show ((p : Nat) : Int) + 1 = ((p + 1 : Nat) : Int) by omega]
      refine r.idx (fun _ => rfl) hp fun pp t => ?_
      refine st_pload1 t (st_sub (by omega) ?_)
      rw [show ((p + 1 : Nat) : Int) - 1 = ((p : Nat) : Int) by omega]
      refine r.idx (fun _ => rfl) (by omega : p < l.length) fun pp t => ?_
      refine st_pload1 t (st_seq ?_)
      refine st_if (fun he => ?_) (fun _ => ?_)
      · exfalso
        simp only [decide_eq_true_eq] at he
        exact ha p hp he.symm
      · refine st_add (by omega) ?_
        exact ⟨n - 1, by omega, p + 1, _, rfl, by omega, rfl⟩
    · exact q
theorem cloneO_string_sp {n : Nat} {cs : List AV} (hb : n * 16 ≤ 1099511627776) {v : AV} (s : St h0 M h L) (r : Rd h 1 v n cs) (k : ∀ v' E h', AccE 1 v' n cs E → St h0 M h' (E ++ L) → Q v' h') : C fn_slices_Clone__string_string [v] h Q := by
  refine slices_Clone__string_string_ok _ _ _ ?_
  unfold slices_Clone__string_string
  have hl := r.len
  refine st_isNilS r (fun h0 => ?_) ?_
  · refine st_if (fun _ => ?_) (fun hb => by cases hb)
    subst h0
    have : cs = [] := by simpa using hl
    subst this
    exact k _ [] _ (.none 1) s
  · refine st_if (fun hb => by cases hb) (fun _ => ?_)
    refine st_buildS rfl rfl ?_
    refine st_app0 s r hb (fun h0 => ?_) fun i h1 hn s => ?_
    · subst h0
      have : cs = [] := by simpa using hl
      subst this
      exact k _ [] _ (.none 1) s
    · exact k _ [(i, true, .cells cs)] _ (.inr ⟨hl, i, rfl, rfl⟩) s
theorem with_sp (hS : SortOk) {l : List Str} {x : Str} {v : AV} (hl : l.length < 100000) (ha : AdjNe (withM l x)) (r : Row nmE 1 h v l) (q : ∀ h', Fr [] h h' → Q (.snap (withM l x).length ((withM l x).flatMap nmE)) h') : C fn_txn_with [v, T x] h Q := by
  refine ACall.conv ?_
  refine txn_with_ok _ _ _ _ ?_
  unfold txn_with
  refine cloneO_string_sp (by omega) (St.start h) r fun v1 E h1 a s1 => ?_
  refine st_buildS rfl rfl ?_
  refine a.app (m := 1) (xs := [T x]) s1 (Rd.full rfl) rfl (by omega) fun v2 E2 h2 a2 s2 => ?_
  have hlen : (withM l x).length = l.length + 1 := by unfold withM; rw [(sortL_perm _).length_eq]; simp
  rcases a2 with ⟨h0, _⟩ | ⟨_, j, rfl, rfl⟩
  · omega
  · have e : l.length + 1 = (l ++ [x]).length := by simp
    have hc : l.flatMap nmE ++ [T x] = (l ++ [x]).flatMap nmE := by simp
    rw [hc] at s2
    rw [e]
    refine hS _ j (l ++ [x]) _ (s2.get (.head _)) (by simp; omega) ?_
    have s3 := s2.turn (o' := .cells ((sortL (l ++ [x])).flatMap nmE)) .head
    have e2 : (l ++ [x]).length = (withM l x).length := by rw [hlen]; simp
    rw [e2]
    refine compact_sp (by omega) ha (s3.get (.head _)) ?_
    exact conv_sl (s3.get (.head _)) (flat_len nmE 1 (fun _ => rfl) _) (q _ (s3.kill .head).fr)
theorem without_sp {x : Str} {v : AV} (r : Row nmE 1 h v [x]) (q : ∀ h', Fr [] h h' → Q (.snap 0 []) h') : C fn_txn_without [v, T x] h Q := by
  refine ACall.conv ?_
  refine txn_without_ok _ _ _ _ ?_
  unfold txn_without
  refine st_box (St.start h) rfl fun p h1 s1 => ?_
  refine cloneO_string_sp (by simp) s1 (Rd.fr r s1.fr) fun v1 E h2 a s2 => ?_
  rcases a with ⟨h0, _⟩ | ⟨_, j, rfl, rfl⟩
  · simp at h0
  · refine slices_DeleteFunc__string_string_ok _ _ _ _ ?_
    unfold slices_DeleteFunc__string_string
    refine slices_IndexFunc__string_string_ok _ _ _ _ ?_
    unfold slices_IndexFunc__string_string
    (repeat refine st_lenL3 ?_)
    refine st_loopX 100 (lx_go ?_)
    unfold slices_IndexFunc__string_string_l2
    (repeat refine st_lss ?_)
    have r2 : Row nmE 1 h2 (.sl j 0 [x].length 1) [x] := Row.sl (enc := nmE) (sz := 1) (fun _ => rfl) (s2.get (.head _))
    refine r2.idx (j := 0) (fun _ => rfl) (by simp) fun pp t => ?_
    refine st_pload1 t ?_
    show ACall Pg fn_txn_without_1 [T x, .ptr p 0] h2 _
    refine txn_without_1_ok _ _ _ _ ?_
    unfold txn_without_1
    (repeat (first | refine st_seq ?_ | refine st_load1 ‹_› (by first | exact .head _ | exact .tail _ (.head _)) rfl ?_))
    refine st_if (fun _ => ?_) (fun h => by simp at h)
    (repeat (first | refine st_eql ?_ | refine st_add (by omega) ?_))
    refine st_loopX 100 (lx_go ?_)
    unfold slices_DeleteFunc__string_string_l7
    (repeat (first | refine st_lenL3 ?_ | refine st_lss ?_))
    refine ⟨?_⟩
    simp only [pSliceL, optI, asI]
    refine ⟨⟨by simp, by simp, by simp, trivial⟩, ⟨?_⟩⟩
    simp only [eClear, s2.get (.head _)]
    refine ⟨⟨rfl, rfl, trivial, by simp, rfl⟩, ⟨?_⟩⟩
    have s3 := s2.turn (o' := .cells (splice ([x].flatMap nmE) (0 + Int.toNat 0 * 1) (List.replicate ((([x].length : Nat) : Int).toNat - Int.toNat 0) (S ⟨#[]⟩ : AV).cells).flatten)) .head
    simp only [pSliceL, optI, asI]
    refine ⟨⟨by simp, by simp, by simp, trivial⟩, ?_⟩
    have q2 := q _ (s3.kill .head).fr
    refine ⟨_, _, .frz j _ (s3.get (.head _)) (.refl _ _), ?_⟩
    have e : fz j (splice ([x].flatMap nmE) (0 + Int.toNat 0 * 1) (List.replicate ((([x].length : Nat) : Int).toNat - Int.toNat 0) (S ⟨#[]⟩ : AV).cells).flatten) (.sl j (0 + Int.toNat 0 * 1) (Int.toNat 0 - Int.toNat 0) 1) = .snap 0 [] := by simp [fz]
    rw [e]
    exact q2
end
end
end Go.Proofs.YtamfimhaimaeiaaGreatDoor.AL
namespace Go.Proofs.YtamfimhaimaeiaaGreatDoor.AL
noncomputable section
open Go.RowKit Go.Sort
open Go.Proofs (encStr)
variable [Tabs]
omit [Tabs] in
theorem nm_map : ∀ l : List Str, l.flatMap nmE = l.map fun x => T x
  | [] => rfl
  | a :: l => by rw [List.flatMap_cons, nm_map l]; rfl
omit [Tabs] in
theorem nm_get {l : List Str} {q : Nat} (hq : q < l.length) : (l.flatMap nmE)[q]? = some (T l[q]) := by
  rw [nm_map, List.getElem?_map, List.getElem?_eq_getElem hq]; rfl
theorem sortOk_of (hb : HasBody Pg fn_slices_Sort__string_string)
    (hs : ∀ (blk off cap : Nat) (ss : List (List UInt8)) (w : World), Holds encStr w blk off ss.toArray → blk < w.heap.size → ss.length < 4611686018427387904 →
      Calls Pg fn_slices_Sort__string_string #[.slice (some ⟨blk, off, none⟩) ss.length cap] w fun e w' => e = .returned (.tuple #[]) ∧ ∃ n os, w' = grow (putRow encStr (Sort.ahead w n) blk off (ss.mergeSort fun x y => decide (x ≤ y)).toArray) os)
    (hn : ∀ (p : Option Addr) (cap : Nat) (w : World), Calls Pg fn_slices_Sort__string_string #[.slice p 0 cap] w fun e w' => e = .returned (.tuple #[]) ∧ w' = w) : SortOk := fun h j l Q hj hl q => by
  refine ⟨hb, fun G w vs si r => ?_⟩
  simp only [RepL, Rep] at r
  obtain ⟨v, ws, rfl, ⟨b, o, c, ad, hloc, hcap, hlen, had, rfl⟩, rfl⟩ := r
  obtain ⟨b', o', arr, el, lo, hi', e1, e2, e3, e4, e5, e6⟩ := objAt_cells si hj
  rw [hloc] at e1
  cases e1
  have hfl : (l.flatMap nmE).length = l.length := by rw [flat_len nmE 1 (fun _ => rfl)]; omega
  have hlt : b < w.heap.size := (Array.getElem?_eq_some_iff.1 e2).1
  have key : ∀ (q : Nat) (hq : q < l.length), arr[o + q]? = some (.string ⟨l[q].toArray⟩) := fun q hq => by
    have hg : (l.flatMap nmE)[q]? = some (T l[q]) := nm_get hq
    obtain ⟨v, hv, hr⟩ := e6 q _ hg
    rw [hv]
    simp only [Rep] at hr
    rw [hr.1]
  rcases Nat.eq_zero_or_pos l.length with h0 | hpos
  · obtain rfl : l = [] := List.length_eq_zero_iff.1 h0
    refine (hn _ c w).mono fun e w' ⟨he, hw⟩ => ?_
    subst hw
    have hset : h.set j (.cells ((sortL ([] : List Str)).flatMap nmE)) = h := by
      have : (sortL ([] : List Str)).flatMap nmE = ([] : List Str).flatMap nmE := by simp [sortL]
      rw [this]
      exact List.ext_getElem? fun k => by
        rw [List.getElem?_set]
        split
        · rename_i hk; subst hk
          split
          · exact hj.symm
          · rename_i hge; rw [List.getElem?_eq_none (by omega)] at hj; cases hj
        · rfl
    rw [hset] at q
    exact ⟨.tup [], _, h, G, he, by simp [Rep, RepL], q, si, Evo.refl _ _ _⟩
  · obtain rfl : o = ad := by have := had (by omega); omega
    have hH : Holds encStr w b o l.toArray := fun q hq => by
      have hq : q < l.length := by simpa using hq
      refine ⟨?_, ?_⟩
      · unfold World.cell?
        rw [e2]
        dsimp only
        rw [if_neg (by exact Bool.false_ne_true), key q hq]
        simp [hq]
      · unfold World.frozen?
        rw [e2]
        dsimp only
        have := e3 (o + q) (by rw [hfl] at e4; omega)
        rw [← Bool.not_eq_true]
        simpa using this
    refine (hs b o c l w hH hlt (by omega)).mono fun e w' ⟨he, n, os, hw⟩ => ?_
    subst hw
    have hsl : (sortL l).length = l.length := (sortL_perm l).length_eq
    have hms : (l.mergeSort fun x y => decide (x ≤ y)) = sortL l := mergeSort_sortL (List.Perm.refl l)
    let d : Array (List UInt8) := (l.mergeSort fun x y => decide (x ≤ y)).toArray
    have hd : d.size = l.length := by simp [d]
    have hput : putRow encStr w b o d = putBlk w b (.cells (putCells encStr o d arr) el (lo, hi')) := by
      unfold putRow mapBlock putBlk
      congr 1
      apply Array.ext_getElem?
      intro k
      rw [Array.getElem?_modify, Array.getElem?_setIfInBounds]
      by_cases hk : b = k
      · subst hk
        rw [if_pos rfl, if_pos rfl, if_pos hlt, e2]
        rfl
      · rw [if_neg hk, if_neg hk]
    have x : ObjAt G (putBlk w b (.cells (putCells encStr o d arr) el (lo, hi'))) j (.cells ((sortL l).flatMap nmE)) := by
      refine ⟨b, o, putCells encStr o d arr, el, lo, hi', hloc, putBlk_eq w b _ hlt, by simpa [putCells] using e3, by rw [flat_len nmE 1 (fun _ => rfl), hsl]; rw [hfl] at e4; omega, by simpa [putCells] using e5, ?_⟩
      intro q a ha
      have hq : q < (sortL l).length := by
        have := (List.getElem?_eq_some_iff.1 ha).1
        rw [flat_len nmE 1 (fun _ => rfl)] at this; omega
      rw [nm_get hq] at ha
      cases ha
      have hql : q < l.length := by omega
      refine ⟨.string ⟨(sortL l)[q].toArray⟩, ?_, by simp [Rep, Value.oneCell']⟩
      unfold putCells
      rw [Array.getElem?_mapIdx, key q hql]
      simp only [Option.map_some]
      rw [if_pos ⟨by omega, by omega⟩, Nat.add_sub_cancel_left]
      have : d[q]! = (sortL l)[q] := by
        rw [getElem!_pos d q (by omega)]
        simp [d, hms]
      rw [this]
    have t := sim_turn si hj rfl hloc rfl x
    have bl : Below (putBlk w b (.cells (putCells encStr o d arr) el (lo, hi'))).heap.size (putBlk w b (.cells (putCells encStr o d arr) el (lo, hi'))) (grow (putRow encStr (Sort.ahead w n) b o d) os) := by
      rw [putRow_ahead, hput]
      refine ⟨rfl, rfl, rfl, by simp [grow, Sort.ahead], fun k hk => ?_⟩
      simp only [grow, Sort.ahead]
      rw [Array.getElem?_append_left hk]
    have t2 := sim_below t.1 bl
    exact ⟨.tup [], _, _, G, he, by simp [Rep, RepL], q, t2.1, t.2.trans t2.2⟩
end
end Go.Proofs.YtamfimhaimaeiaaGreatDoor.AL
namespace Go.Proofs.YtamfimhaimaeiaaGreatDoor.AL
noncomputable section
open Go.Proofs
variable [Tabs]
theorem sortOk : SortOk := sortOk_of ⟨_, Tryz.func94, by kernel_rfl, by kernel_rfl⟩ (fun b o c ss w h1 h2 h3 => AnyM.slices_Sort_string Tryz.sort94 b o c ss w h1 h2 h3) (fun p c w => AnyM.slices_Sort_string_none Tryz.sort94 p c w)
theorem kvOk : KVOk := ⟨⟨_, keysIs78⟩, ⟨_, sortedIs78⟩⟩
end
end Go.Proofs.YtamfimhaimaeiaaGreatDoor.AL
namespace Go.Proofs.YtamfimhaimaeiaaGreatDoor.AL
noncomputable section
structure TxM where
  r : Rq
  tries : Int
  trying : Bool
  over : Bool
  at_ : Int
  todo : List Str
  got : KL (Option Str)
def getT (t : TxM) (k : Str) : Option Str := (lookK k t.got).getD none
def namesT (t : TxM) (k : Str) : List Str := partsM ((getT t k).getD [])
def firstT (r : Rq) : List Str := if r.kind = 4 then [102 :: r.name] else [[100]]
def moreT (t : TxM) (k : Str) : List Str := if t.r.kind = 3 ∧ k = [100] ∧ t.r.name ∈ namesT t [100] then [102 :: t.r.name] else []
def mbE (o : Option Str) : AV := .agg [T (o.getD []), B o.isSome]
section
variable [Tabs]
variable {h0 h : AHeap} {M : List Nat} {L R R' : Own} {K : AV → Prop} {KH : QT} {KS' : AHeap → Prop} {Q : QT} {i : Nat} {m : StM}
theorem StoS.rest (s : StoS h0 M h i m R) : St h0 M h R := by
  obtain ⟨jp, jk, xp, xk, mp, mk, s⟩ := s
  exact s.drop1.drop1.drop1
theorem so_new {cs : List AV} (s : StoS h0 M h i m R) (k : ∀ p h', StoS h0 M h' i m ((p, true, .cells cs) :: R) → KH (.ptr p 0) h') : qNew cs h KH := by
  obtain ⟨jp, jk, xp, xk, mp, mk, s⟩ := s
  exact st_new s fun p h' s' => k p h' ⟨jp, jk, xp, xk, mp, mk, s'.perm perm3⟩
theorem so_box {v : AV} (s : StoS h0 M h i m R) (e : v.isTup = false) (k : ∀ p h', StoS h0 M h' i m ((p, true, .cells v.cells) :: R) → KH (.ptr p 0) h') : qBox v h KH := by
  obtain ⟨jp, jk, xp, xk, mp, mk, s⟩ := s
  exact st_box s e fun p h' s' => k p h' ⟨jp, jk, xp, xk, mp, mk, s'.perm perm3⟩
theorem so_makeMap (s : StoS h0 M h i m R) (k : ∀ p h', StoS h0 M h' i m ((p, true, .amap [] 0) :: R) → KH (.map p) h') : qMakeMap h KH := by
  obtain ⟨jp, jk, xp, xk, mp, mk, s⟩ := s
  exact st_makeMap s fun p h' s' => k p h' ⟨jp, jk, xp, xk, mp, mk, s'.perm perm3⟩
theorem so_store {p o n : Nat} {cs : List AV} {u : AV} (s : StoS h0 M h i m R) (e : Sub R (p, true, .cells cs) R' (p, true, .cells (splice cs o u.cells))) (e1 : u.isTup = false) (e2 : u.cells.length = n) (e3 : u.cells.all AV.one = true) (e4 : o + n ≤ cs.length)
    (k : ∀ h', StoS h0 M h' i m R' → KS' h') : qStore n (.ptr p o) u h KS' := by
  obtain ⟨jp, jk, xp, xk, mp, mk, s⟩ := s
  exact st_store s (.tail (.tail (.tail e))) e1 e2 e3 e4 fun h' s' => k h' ⟨jp, jk, xp, xk, mp, mk, s'⟩
theorem so_load1 {p o : Nat} {b : Bool} {cs : List AV} {a : AV} (s : StoS h0 M h i m R) (e : (p, b, .cells cs) ∈ R) (e2 : cs[o]? = some a) (k : K a) : qLoad1 (.ptr p o) h K := st_load1 s.rest e e2 k
theorem so_loadA {p o n : Nat} {b : Bool} {cs : List AV} (s : StoS h0 M h i m R) (e : (p, b, .cells cs) ∈ R) (e2 : o + n ≤ cs.length) (k : K (.agg ((cs.drop o).take n))) : qLoadA n (.ptr p o) h K := st_loadA s.rest e e2 k
theorem StoS.after (s : StoS h0 M h i m R) {h' : AHeap} (f : Fr [] h h') : StoS h0 M h' i m R := by
  obtain ⟨jp, jk, xp, xk, mp, mk, s⟩ := s
  exact ⟨jp, jk, xp, xk, mp, mk, s.after f⟩
theorem StoS.sub (s : StoS h0 M h i m R) (hs : R'.Sublist R) : StoS h0 M h i m R' := by
  obtain ⟨jp, jk, xp, xk, mp, mk, s⟩ := s
  exact ⟨jp, jk, xp, xk, mp, mk, s.sub (((hs.cons_cons _).cons_cons _).cons_cons _)⟩
theorem StoS.perm (s : StoS h0 M h i m R) (hs : R.Perm R') : StoS h0 M h i m R' := by
  obtain ⟨jp, jk, xp, xk, mp, mk, s⟩ := s
  exact ⟨jp, jk, xp, xk, mp, mk, s.perm (((hs.cons _).cons _).cons _)⟩
abbrev txC (i : Nat) (pb : Nat) (t : TxM) (td gt : AV) : List AV := [.ptr i 0, .ptr pb 0, I t.r.kind, T t.r.name, T t.r.text, I t.r.value, I t.tries, B t.trying, B t.over, I t.at_, td, gt]
def tdE (l : List Str) (v : AV) : Prop := v = .snap l.length (l.flatMap nmE) ∨ v = .full l.length (l.flatMap nmE)
theorem tdE.row {l : List Str} {v : AV} (e : tdE l v) : Row nmE 1 h v l := by
  rcases e with rfl | rfl
  · exact Row.snap (enc := nmE) (fun _ => rfl) l
  · exact Row.full (enc := nmE) (fun _ => rfl) l
inductive TxO (i : Nat) (pb : Nat) (p : Nat) (t : TxM) : Own → Prop where
  | no {td : AV} (e : tdE t.todo td) (hn : t.trying = false) (hg : t.got = []) : TxO i pb p t [(p, true, .cells (txC i pb t td (.lit (.map none))))]
  | on {td : AV} {jg : Nat} {xg : AObj} (e : tdE t.todo td) (mg : MapS mbE t.got xg) : TxO i pb p t [(p, true, .cells (txC i pb t td (.map jg))), (jg, true, xg)]
theorem txBegin_sp {pb : Nat} {r : Rq} (s : St h0 M h R) (q : ∀ p E h', TxO i pb p ⟨r, 0, false, false, 0, [], []⟩ E → St h0 M h' (E ++ R) → Q (.ptr p 0) h') : C fn_txn_Begin [.ptr i 0, .ptr pb 0, rqE r] h Q := by
  refine txn_Begin_ok _ _ _ _ _ ?_
  unfold txn_Begin
  refine st_box s rfl fun p0 h1 s1 => ?_
  refine st_loadA s1 (.head _) (nle rfl) ?_
  refine st_build (cs := txC i pb ⟨r, 0, false, false, 0, [], []⟩ (.full 0 []) (.lit (.map none))) rfl ?_
  refine st_box s1 rfl fun p h2 s2 => ?_
  exact q p _ h2 (.no (.inr rfl) rfl rfl) (s2.sub (((List.Sublist.refl _).cons _).cons_cons _))
theorem txTries_sp {pb : Nat} {p : Nat} {t : TxM} {E : Own} (o : TxO i pb p t E) (s : St h0 M h (E ++ R)) (q : Q (I t.tries) h) : C fn_txn_Txn_Tries [.ptr p 0] h Q := by
  refine txn_Txn_Tries_ok _ _ _ ?_
  unfold txn_Txn_Tries
  cases o with
  | no e hn hg => (repeat (first | refine st_nil ?_ | refine st_fa ?_ | refine st_load1 ‹_› (.head _) rfl ?_)); exact q
  | on e mg => (repeat (first | refine st_nil ?_ | refine st_fa ?_ | refine st_load1 ‹_› (.head _) rfl ?_)); exact q
theorem txNames_sp (hI : IndexOk) {pb : Nat} {p jg : Nat} {t : TxM} {td : AV} {xg : AObj} {k : Str} (mg : MapS mbE t.got xg) (hl : ((getT t k).getD []).length < 1000000000) (s : St h0 M h ((p, true, .cells (txC i pb t td (.map jg))) :: (jg, true, xg) :: R)) (q : ∀ h', Fr [] h h' → Q (.snap (namesT t k).length ((namesT t k).flatMap nmE)) h') : C fn_txn_Txn_names [.ptr p 0, T k] h Q := by
  refine txn_Txn_names_ok _ _ _ _ ?_
  unfold txn_Txn_names
  (repeat (first | refine st_nil ?_ | refine st_fa ?_ | refine st_load1 ‹_› (.head _) rfl ?_))
  refine st_lookS0 (s.get (.tail _ (.head _))) mg ?_
  have e : ((lookK k t.got).map mbE).getD (.agg [S ⟨#[]⟩, B false]) = .agg [T ((getT t k).getD []), B (getT t k).isSome] := by
    unfold getT; cases lookK k t.got with
    | none => rfl
    | some o => rfl
  rw [e]
  (repeat refine st_part1 rfl ?_)
  exact wparts_sp hI hl q
theorem txFirst_sp {pb : Nat} {p : Nat} {t : TxM} {td gt : AV} (h4 : t.r.kind = 1 ∨ t.r.kind = 2 ∨ t.r.kind = 3 ∨ t.r.kind = 4) (hn : t.r.name.length < 1000000) (s : St h0 M h ((p, true, .cells (txC i pb t td gt)) :: R)) (q : ∀ v, tdE (firstT t.r) v → Q v h) : C fn_txn_Txn_first [.ptr p 0] h Q := by
  refine txn_Txn_first_ok _ _ _ ?_
  unfold txn_Txn_first txn_Txn_first_j0
  unfold firstT at q
  (repeat (first | refine st_nil ?_ | refine st_fa ?_ | refine st_eql ?_ | refine st_load1 ‹_› (.head _) rfl ?_))
  refine st_if (fun h1 => ?_) (fun h1 => ?_) <;> simp only [za, zb, zc, zd, ze, zf, zg, zh, zi, u8i, zj, zk, zl] at h1
  · rw [if_pos h1] at q
    (repeat (first | refine st_nil ?_ | refine st_fa ?_ | refine st_load1 ‹_› (.head _) rfl ?_))
    refine st_cat (by simp; omega) ?_
    (repeat refine st_buildS rfl rfl ?_)
    exact q _ (.inr rfl)
  · rw [if_neg h1] at q
    (repeat refine st_eql ?_)
    refine st_if (fun h => by exfalso; simp at h; omega) (fun _ => ?_)
    refine st_eql ?_
    refine st_if (fun h => by exfalso; simp at h; omega) (fun _ => ?_)
    refine st_eql ?_
    refine st_if (fun h => by exfalso; simp at h; omega) (fun _ => ?_)
    (repeat refine st_buildS rfl rfl ?_)
    exact q _ (.inr rfl)
theorem txMore_sp (hI : IndexOk) {pb : Nat} {p jg : Nat} {t : TxM} {td : AV} {xg : AObj} {k : Str} (h7 : t.r.kind ≠ 7) (mg : MapS mbE t.got xg) (hl : ((getT t k).getD []).length < 1000000000) (hn : t.r.name.length < 1000000) (s : St h0 M h ((p, true, .cells (txC i pb t td (.map jg))) :: (jg, true, xg) :: R)) (q : ∀ v h', Fr [] h h' → tdE (moreT t k) v → Q v h') : C fn_txn_Txn_more [.ptr p 0, T k] h Q := by
  refine txn_Txn_more_ok _ _ _ _ ?_
  unfold txn_Txn_more
  unfold moreT at q
  (repeat (first | refine st_nil ?_ | refine st_fa ?_ | refine st_eql ?_ | refine st_load1 ‹_› (.head _) rfl ?_))
  refine st_if (fun h1 => ?_) (fun h1 => ?_) <;> simp only [za, zb, zc, zd, ze, zf, zg, zh, zi, u8i, zj, zk, zl] at h1
  · refine st_seq ?_
    refine st_if (fun h2 => ?_) (fun h2 => ?_) <;> simp only [za, zb, zc, zd, ze, zf, zg, zh, zi, u8i, zj, zk, zl] at h2
    · subst h2
      (repeat (first | refine st_nil ?_ | refine st_fa ?_ | refine st_load1 ‹_› (.head _) rfl ?_))
      refine txNames_sp hI mg hl s fun h1' f1 => ?_
      have s1 := s.after f1
      refine ⟨st_load1 s1 (.head _) rfl rfl, ?_⟩
      have hnl : (namesT t [100]).length < 4611686018427387904 := by
        unfold namesT partsM
        rw [List.length_dropLast, splitB_len]
        have : ((getT t [100]).getD []).count 10 ≤ ((getT t [100]).getD []).length := List.count_le_length
        omega
      refine contains_string_sp t.r.name (namesT t [100]) hnl (Row.snap (enc := nmE) (fun _ => rfl) _) ?_
      refine st_if (fun hc => ?_) (fun hc => ?_)
      · have hm : t.r.name ∈ namesT t [100] := by
          obtain ⟨y, hy, e⟩ := List.any_eq_true.1 hc
          simp only [decide_eq_true_eq] at e; rw [e]; exact hy
        rw [if_pos ⟨h1, rfl, hm⟩] at q
        (repeat (first | refine st_nil ?_ | refine st_fa ?_ | refine st_load1 ‹_› (.head _) rfl ?_))
        refine st_cat (by simp; omega) ?_
        (repeat refine st_buildS rfl rfl ?_)
        exact q _ _ f1 (.inr rfl)
      · have hm : ¬ t.r.name ∈ namesT t [100] := fun hm => by
          rw [List.any_eq_false] at hc
          exact hc _ hm (by simp)
        rw [if_neg (fun h => hm h.2.2)] at q
        (repeat (first | refine st_nil ?_ | refine st_fa ?_ | refine st_neq ?_ | refine st_load1 ‹_› (.head _) rfl ?_))
        refine st_if (fun _ => ?_) (fun h => by exfalso; simp at h; omega)
        exact q _ _ f1 (.inr rfl)
    · rw [if_neg (fun h => h2 h.2.1)] at q
      (repeat (first | refine st_nil ?_ | refine st_fa ?_ | refine st_neq ?_ | refine st_load1 ‹_› (.head _) rfl ?_))
      refine st_if (fun _ => ?_) (fun h => by exfalso; simp at h; omega)
      exact q _ _ (Fr.refl _ _) (.inr rfl)
  · rw [if_neg (fun h => h1 h.1)] at q
    (repeat (first | refine st_nil ?_ | refine st_fa ?_ | refine st_neq ?_ | refine st_load1 ‹_› (.head _) rfl ?_))
    refine st_if (fun _ => ?_) (fun h => by exfalso; simp at h; omega)
    exact q _ _ (Fr.refl _ _) (.inr rfl)
end
end
end Go.Proofs.YtamfimhaimaeiaaGreatDoor.AL
namespace Go.Proofs.YtamfimhaimaeiaaGreatDoor.AL
noncomputable section
def beginT (t : TxM) (m : StM) : TxM := { t with tries := t.tries + 1, trying := true, at_ := m.now, todo := firstT t.r, got := [] }
def readT (t : TxM) (m : StM) : TxM := match t.todo with
  | [] => t
  | k :: rest => { t with got := insK k (readM m k t.at_) t.got, todo := rest ++ moreT { t with got := insK k (readM m k t.at_) t.got } k }
def endM (t : TxM) (m : StM) : StM := cleanM (unpinM m t.at_)
structure PinOk (m : StM) : Prop where
  b : ∀ k v, lookK k m.pins = some v → v < 1000000000 ∧ -1000000000 < v
section
variable [Tabs]
variable {h0 h : AHeap} {M : List Nat} {L R R' : Own} {K : AV → Prop} {KH : QT} {KS' : AHeap → Prop} {Q : QT} {i : Nat} {m : StM}
theorem txPin_sp {pb p : Nat} {t : TxM} {td gt : AV} (h4 : t.r.kind = 1 ∨ t.r.kind = 2 ∨ t.r.kind = 3 ∨ t.r.kind = 4) (hn : t.r.name.length < 1000000) (ht : -1000 < t.tries ∧ t.tries < 1000) (hp : PinOk m) (s : StoS h0 M h i m ((p, true, .cells (txC i pb t td gt)) :: R))
    (q : ∀ td' jg h', tdE (firstT t.r) td' → StoS h0 M h' i (pinM m) ((p, true, .cells (txC i pb (beginT t m) td' (.map jg))) :: (jg, true, .amap [] 0) :: R) → Q (.tup []) h') : C fn_txn_Txn_begin [.ptr p 0] h Q := by
  refine txn_Txn_begin_ok _ _ _ ?_
  unfold txn_Txn_begin
  refine st_nil (st_fa (so_load1 s (.head _) rfl (st_add (by omega) (st_nil (st_fa ?_)))))
  refine so_store s .head rfl rfl rfl (nle rfl) fun h1 s1 => ?_
  refine st_nil (st_fa (so_load1 s1 (.head _) rfl ?_))
  refine pin_sp s1 (fun v hv => hp.b _ v hv) fun h2 s2 => ?_
  refine st_nil (st_fa (so_store s2 .head rfl rfl rfl (nle rfl) fun h3 s3 => ?_))
  refine st_nil (st_fa (so_store s3 .head rfl rfl rfl (nle rfl) fun h4' s4 => ?_))
  have s4 : StoS h0 M h4' i (pinM m) ((p, true, .cells (txC i pb { t with tries := t.tries + 1, trying := true, at_ := m.now } td gt)) :: R) := s4
  refine txFirst_sp (t := { t with tries := t.tries + 1, trying := true, at_ := m.now }) h4 hn s4.rest fun v hv => ?_
  refine so_makeMap s4 fun jg h5 s5 => ?_
  refine st_nil (st_fa ?_)
  have hv1 : v.isTup = false ∧ v.cells.length = 1 ∧ v.cells.all AV.one = true ∧ v.cells = [v] := by rcases hv with rfl | rfl <;> exact ⟨rfl, rfl, rfl, rfl⟩
  refine so_store s5 (.tail .head) hv1.1 hv1.2.1 hv1.2.2.1 (nle rfl) fun h6 s6 => ?_
  rw [hv1.2.2.2] at s6
  refine st_nil (st_fa (so_store s6 (.tail .head) rfl rfl rfl (nle rfl) fun h7 s7 => ?_))
  exact q v jg h7 hv (s7.perm (.swap _ _ _))
theorem txEnd_sp (hks : KVOk) {pb p : Nat} {t : TxM} {td gt : AV} (ok : StoOk m) (hp : PinOk m) (s : StoS h0 M h i m ((p, true, .cells (txC i pb t td gt)) :: R))
    (q : ∀ h', StoS h0 M h' i (endM t m) ((p, true, .cells (txC i pb { t with trying := false } td gt)) :: R) → Q (.tup []) h') : CD fn_txn_Txn_end [.ptr p 0] h Q := by
  refine txn_Txn_end_okD _ _ _ ?_
  unfold txn_Txn_end
  refine st_nil (st_fa (so_store s .head rfl rfl rfl (nle rfl) fun h1 s1 => ?_))
  refine st_nil (st_fa (so_load1 s1 (.head _) rfl ?_))
  refine st_nil (st_fa (so_load1 s1 (.head _) rfl ?_))
  refine unpin_sp s1 (fun v hv => hp.b _ v hv) fun h2 s2 => ?_
  refine st_nil (st_fa (so_load1 s2 (.head _) rfl ?_))
  refine clean_sp (m := unpinM m t.at_) hks ⟨ok.n, ok.k, ok.c⟩ s2 fun n h3 s3 => ?_
  exact q h3 s3
theorem st_cut1 {k : Str} {rest : List Str} {v : AV} (e : tdE (k :: rest) v) (q : K (.snap rest.length (rest.flatMap nmE))) : qSliceL 1 v (some (I 1)) none K := ⟨by
  have hl : (rest.flatMap nmE).length = rest.length := by rw [flat_len nmE 1 (fun _ => rfl)]; omega
  have h : AV.snap ((((k :: rest).length : Nat) : Int).toNat - Int.toNat 1) ((((k :: rest).flatMap nmE).drop (Int.toNat 1 * 1)).take (((((k :: rest).length : Nat) : Int).toNat - Int.toNat 1) * 1)) = .snap rest.length (rest.flatMap nmE) := by
    have e1 : (((k :: rest).length : Nat) : Int).toNat - Int.toNat 1 = rest.length := by simp
    have e2 : ((k :: rest).flatMap nmE).drop (Int.toNat 1 * 1) = rest.flatMap nmE := rfl
    rw [e1, e2, List.take_of_length_le (by omega)]
  rcases e with rfl | rfl
  · simp only [pSliceL, optI, asI]
    rw [h]
    exact ⟨⟨by omega, by simp; omega, by omega⟩, q⟩
  · simp only [pSliceL, optI, asI]
    rw [h]
    exact ⟨⟨by omega, by simp; omega, by omega⟩, q⟩⟩
theorem so_cloneO {n : Nat} {cs : List AV} (hb : n * 16 ≤ 1099511627776) {v : AV} (s : StoS h0 M h i m R) (r : Rd h 1 v n cs) (k : ∀ v' E h', AccE 1 v' n cs E → StoS h0 M h' i m (E ++ R) → Q v' h') : C fn_slices_Clone__string_string [v] h Q := by
  obtain ⟨jp, jk, xp, xk, mp, mk, s⟩ := s
  refine cloneO_string_sp hb s r fun v' E h' a s' => k v' E h' a ⟨jp, jk, xp, xk, mp, mk, ?_⟩
  exact St.swap (A := E) (B := sto3 i jp jk m xp xk) s'
theorem so_appd {sz n bytes m' : Nat} {v x : AV} {cs xs : List AV} {E : Own} (a : AccE sz v n cs E) (s : StoS h0 M h i m (E ++ R)) (r : Rd h sz x m' xs) (h1 : xs.all AV.one = true) (hb : (n + m') * bytes ≤ 1099511627776)
    (k : ∀ v' E' h', AccE sz v' (n + m') (cs ++ xs) E' → StoS h0 M h' i m (E' ++ R) → KH v' h') : qAppend sz bytes v x h KH := by
  obtain ⟨jp, jk, xp, xk, mp, mk, s⟩ := s
  have s : St h0 M h (E ++ (sto3 i jp jk m xp xk ++ R)) := St.swap (A := sto3 i jp jk m xp xk) (B := E) s
  refine a.app s r h1 hb fun v' E' h' a' s' => k v' E' h' a' ⟨jp, jk, xp, xk, mp, mk, ?_⟩
  exact St.swap (A := E') (B := sto3 i jp jk m xp xk) s'
theorem so_frzIn {j p : Nat} {cs ds : List AV} (s : StoS h0 M h i m ((j, true, .cells cs) :: (p, true, .cells ds) :: R)) : p ≠ j ∧ i ≠ j ∧ (∀ e ∈ R, e.1 ≠ j) ∧ h[j]? = some (.cells cs) ∧ h[p]? = some (.cells ds) ∧ StoS h0 M ((h.set j .dead).set p (.cells (fzL j cs ds))) i m ((p, true, .cells (fzL j cs ds)) :: R) := by
  obtain ⟨jp, jk, xp, xk, mp, mk, s⟩ := s
  have s : St h0 M h ((j, true, .cells cs) :: (sto3 i jp jk m xp xk ++ ((p, true, .cells ds) :: R))) := s.perm (L := sto3 i jp jk m xp xk ++ ((j, true, .cells cs) :: (p, true, .cells ds) :: R)) List.perm_middle
  have u : Sub (sto3 i jp jk m xp xk ++ ((p, true, AObj.cells ds) :: R)) (p, true, .cells ds) (sto3 i jp jk m xp xk ++ ((p, true, fzO j cs (.cells ds)) :: R)) (p, true, fzO j cs (.cells ds)) := Sub.appL .head _
  obtain ⟨hne, s5⟩ := s.frzIn .head u
  have nd := Del.ne (L := (j, true, AObj.cells cs) :: (sto3 i jp jk m xp xk ++ ((p, true, .cells ds) :: R))) .head s.nd
  exact ⟨hne, nd (i, true, .cells (stoC jp jk m)) (by simp), fun e he => nd e (by simp [he]), s.get (.head _), s.get (.tail _ u.mem), jp, jk, xp, xk, mp, mk, s5⟩
theorem acc_cell {n : Nat} {v : AV} {cs : List AV} {E : Own} (a : AccE 1 v n cs E) : v.isTup = false ∧ v.cells.length = 1 ∧ v.cells.all AV.one = true ∧ v.cells = [v] := by
  rcases a with ⟨_, _, rfl, _⟩ | ⟨_, j, rfl, _⟩ <;> exact ⟨rfl, rfl, rfl, rfl⟩
theorem txRead_sp (hI : IndexOk) {pb p jg : Nat} {t : TxM} {td : AV} {xg : AObj} {k : Str} {rest : List Str} (h7 : t.r.kind ≠ 7) (htd : tdE t.todo td) (hto : t.todo = k :: rest) (hr : rest.length < 100000) (mg : MapS mbE t.got xg) (hn : t.r.name.length < 1000000)
    (hrow : (rowK m k).length < 1000000) (hval : ((readM m k t.at_).getD []).length < 1000000000) (hb : ∃ e ∈ R, e.1 = pb) (s : StoS h0 M h i m ((p, true, .cells (txC i pb t td (.map jg))) :: (jg, true, xg) :: R))
    (q : ∀ td' xg' h', tdE (readT t m).todo td' → MapS mbE (readT t m).got xg' → StoS h0 M h' i m ((p, true, .cells (txC i pb (readT t m) td' (.map jg))) :: (jg, true, xg') :: R) → Q (.tup []) h') : C fn_txn_Txn_read [.ptr p 0] h Q := by
  refine ACall.convI ?_
  refine txn_Txn_read_ok _ _ _ ?_
  unfold txn_Txn_read
  rw [hto] at htd
  refine st_nil (st_fa (so_load1 s (.head _) rfl ?_))
  refine (htd.row (h := h)).idx (j := 0) (fun _ => rfl) (by simp) fun pp tt => ?_
  have tt : Pt h pp (nmE k) := tt
  refine st_pload1 tt ?_
  refine st_nil (st_fa (so_load1 s (.head _) rfl ?_))
  refine st_nil (st_fa (so_load1 s (.head _) rfl ?_))
  refine stoRead_sp hrow s ?_
  refine st_ext rfl (st_ext rfl ?_)
  refine st_nil (st_fa (so_load1 s (.head _) rfl (st_build rfl ?_)))
  have s0 := s
  obtain ⟨jp, jk, xp, xk, mp, mk, s0⟩ := s0
  refine st_putS (v := readM m k t.at_) s0 (.tail _ (.tail _ (.tail _ (.tail _ (.head _))))) mg fun xg2 mg2 st => ?_
  have s1 : StoS h0 M (h.set jg xg2) i m ((p, true, .cells (txC i pb t td (.map jg))) :: (jg, true, xg2) :: R) := ⟨jp, jk, xp, xk, mp, mk, st (.tail (.tail (.tail (.tail .head))))⟩
  clear st s0
  refine st_nil (st_fa (so_load1 s1 (.head _) rfl ?_))
  refine st_cut1 htd ?_
  refine so_cloneO (by omega) s1 (Rd.snap (flat_len nmE 1 (fun _ => rfl) _)) fun v1 E1 h2 a1 s2 => ?_
  have so := mg.so
  have hg : getT { t with got := insK k (readM m k t.at_) t.got } k = readM m k t.at_ := by unfold getT; rw [lookK_insK so, if_pos rfl]; rfl
  have s2r : St h0 M h2 ((p, true, .cells (txC i pb { t with got := insK k (readM m k t.at_) t.got } td (.map jg))) :: (jg, true, xg2) :: R) := s2.rest.sub (List.sublist_append_right _ _)
  refine txMore_sp hI (t := { t with got := insK k (readM m k t.at_) t.got }) h7 mg2 (by rw [hg]; exact hval) hn s2r fun v2 h3 f3 hv2 => ?_
  have s3 := s2.after f3
  have hml : (moreT { t with got := insK k (readM m k t.at_) t.got } k).length ≤ 1 := by unfold moreT; split <;> simp
  refine so_appd (m' := (moreT { t with got := insK k (readM m k t.at_) t.got } k).length) a1 s3 hv2.row (by
    have : ∀ l : List Str, (l.flatMap nmE).all AV.one = true := fun l => by
      induction l with
      | nil => rfl
      | cons a l ih => rw [List.flatMap_cons, List.all_append, ih]; rfl
    exact this _) (by omega) fun v3 E3 h4 a3 s4 => ?_
  have hc := acc_cell a3
  refine st_nil (st_fa (so_store s4 (Sub.appL .head E3) hc.1 hc.2.1 hc.2.2.1 (nle rfl) fun h5 s5 => ?_))
  rw [hc.2.2.2] at s5
  have hrd : (readT t m).todo = rest ++ moreT { t with got := insK k (readM m k t.at_) t.got } k := by unfold readT; rw [hto]
  have hrg : (readT t m).got = insK k (readM m k t.at_) t.got := by unfold readT; rw [hto]
  have hcell : ∀ td' gt, txC i pb (readT t m) td' gt = txC i pb t td' gt := fun td' gt => by unfold readT; rw [hto]
  have hlen : (readT t m).todo.length = rest.length + (moreT { t with got := insK k (readM m k t.at_) t.got } k).length := by rw [hrd]; simp
  have hfl : (readT t m).todo.flatMap nmE = rest.flatMap nmE ++ (moreT { t with got := insK k (readM m k t.at_) t.got } k).flatMap nmE := by rw [hrd, List.flatMap_append]
  rw [← hlen, ← hfl] at a3
  rcases a3 with ⟨h0', h1', rfl, rfl⟩ | ⟨_, j, rfl, rfl⟩
  · refine ⟨_, _, .refl _ _, q (.full 0 []) xg2 h5 (.inr ?_) (by rw [hrg]; exact mg2) (by rw [hcell]; exact s5)⟩
    have : (readT t m).todo = [] := List.length_eq_zero_iff.1 h0'
    rw [this]; rfl
  · obtain ⟨hpj, hij, hRj, hgj, hgp, s6⟩ := so_frzIn s5
    obtain ⟨e, he, hpb⟩ := hb
    have hbj : pb ≠ j := by rw [← hpb]; exact hRj e (by simp [he])
    refine ⟨_, _, .frzIn j _ hgj p _ hgp hpj (.refl _ _), ?_⟩
    have hz : fzL j ((readT t m).todo.flatMap nmE) (splice (txC i pb t td (.map jg)) (0 + 10) [.sl j 0 (readT t m).todo.length 1]) = txC i pb (readT t m) (.snap (readT t m).todo.length ((readT t m).todo.flatMap nmE)) (.map jg) := by
      rw [hcell]
      show fzL j _ [.ptr i 0, .ptr pb 0, I t.r.kind, T t.r.name, T t.r.text, I t.r.value, I t.tries, B t.trying, B t.over, I t.at_, .sl j 0 _ 1, .map jg] = _
      simp only [fzL, fz, if_neg hij, if_neg hbj]
      rw [if_pos ⟨trivial, by rw [flat_len nmE 1 (fun _ => rfl)]; omega⟩, List.drop_zero, List.take_of_length_le (by rw [flat_len nmE 1 (fun _ => rfl)]; omega)]
    have hcl : fzO j ((readT t m).todo.flatMap nmE) (.cells (splice (txC i pb t td (.map jg)) (0 + 10) [.sl j 0 (readT t m).todo.length 1])) = .cells (txC i pb (readT t m) (.snap (readT t m).todo.length ((readT t m).todo.flatMap nmE)) (.map jg)) := by show AObj.cells (fzL _ _ _) = _; rw [hz]
    rw [hz] at s6
    rw [hcl]
    simp only [fz, fzL]
    exact q _ xg2 _ (.inl rfl) (by rw [hrg]; exact mg2) s6
end
end
end Go.Proofs.YtamfimhaimaeiaaGreatDoor.AL
namespace Go.Proofs.YtamfimhaimaeiaaGreatDoor.AL
noncomputable section
def withoutM (l : List Str) (x : Str) : List Str := l.filter fun y => decide (y ≠ x)
def setT (t : TxM) (all of_ value : Str) : List Wr × Int :=
  if t.r.name ∈ namesT t all then ([⟨of_ ++ t.r.name, value, false⟩], 0)
  else if 8 ≤ (namesT t all).length then ([], 10)
  else ([⟨of_ ++ t.r.name, value, false⟩, ⟨all, joinM (withM (namesT t all) t.r.name), false⟩], 0)
def goneT (t : TxM) (all of_ : Str) : List Wr × Int :=
  if t.r.name ∈ namesT t all then ([⟨of_ ++ t.r.name, [], true⟩, ⟨all, joinM (withoutM (namesT t all) t.r.name), false⟩], 0) else ([], 9)
def writesT (t : TxM) : List Wr × Int :=
  if t.r.kind = 1 then setT t [100] [102] t.r.text
  else if t.r.kind = 2 then goneT t [100] [102]
  else if t.r.name ∈ namesT t [100] then (if 600 < ((getT t ([102] ++ t.r.name)).getD [] ++ t.r.text).length then ([], 10) else setT t [100] [102] ((getT t ([102] ++ t.r.name)).getD [] ++ t.r.text))
  else ([], 9)
def changedT (t : TxM) (m : StM) : Bool := t.got.any fun x => changedM m x.1 t.at_
section
variable [Tabs]
variable {h0 h : AHeap} {M : List Nat} {L R R' : Own} {K : AV → Prop} {KH : QT} {KS' : AHeap → Prop} {Q : QT} {i : Nat} {m : StM}
theorem any_mem {l : List Str} {x : Str} : (l.any fun y => decide (x = y)) = decide (x ∈ l) := by
  rw [Bool.eq_iff_iff, List.any_eq_true, decide_eq_true_eq]
  constructor
  · rintro ⟨y, hy, e⟩; simp only [decide_eq_true_eq] at e; rw [e]; exact hy
  · intro h; exact ⟨x, h, by simp⟩
theorem parts_len {s : Str} : (partsM s).length ≤ s.length := by
  unfold partsM
  rw [List.length_dropLast, splitB_len]
  have : s.count 10 ≤ s.length := List.count_le_length
  omega
abbrev TxR (h0 : AHeap) (M : List Nat) (h : AHeap) (i pb p jg : Nat) (t : TxM) (td : AV) (xg : AObj) (R : Own) : Prop := St h0 M h ((p, true, .cells (txC i pb t td (.map jg))) :: (jg, true, xg) :: R)
theorem st_appF {sz bytes n m' : Nat} {x : AV} {az' cs : List AV} (s : St h0 M h L) (hn : az'.length = n * sz) (r : Rd h sz x m' cs) (hm : 0 < m') (hb : (n + m') * bytes ≤ 1099511627776) (k : ∀ j h', St h0 M h' ((j, true, .cells (az' ++ cs)) :: L) → KH (.sl j 0 (n + m') sz) h') : qAppend sz bytes (.full n az') x h KH := ⟨by
  simp only [eAppend, r.2]
  refine ⟨⟨hn, hb⟩, ?_⟩
  rw [if_neg (by omega)]
  exact k _ _ (s.push _)⟩
theorem wlist_sp {k : Str} {l : List Str} {v : AV} (hl : l.length < 1000000) (hs : sumL l < 1000000) (r : Row nmE 1 h v l) (q : ∀ h', Fr [] h h' → Q (.agg (wrE ⟨k, joinM l, false⟩)) h') : C fn_txn_list [T k, v] h Q := by
  refine txn_list_ok _ _ _ _ ?_
  unfold txn_list
  refine st_new (St.start h) fun p h1 s1 => ?_
  refine wjoin_sp (by omega) (by omega) (r.fr s1.fr) ?_
  refine st_build rfl ?_
  refine st_store s1 .head rfl rfl rfl (nle rfl) fun h2 s2 => ?_
  refine st_loadA s2 (.head _) (nle rfl) ?_
  exact q h2 s2.fr
theorem wset_sp (hI : IndexOk) (hS : SortOk) {pb p jg : Nat} {t : TxM} {td : AV} {xg : AObj} {all of_ value : Str} (mg : MapS mbE t.got xg) (hl : ((getT t all).getD []).length < 90000) (hn : t.r.name.length < 1000) (hof : of_.length < 1000)
    (ha : t.r.name ∉ namesT t all → AdjNe (withM (namesT t all) t.r.name)) (hsum : sumL (withM (namesT t all) t.r.name) < 1000000) (s : TxR h0 M h i pb p jg t td xg R)
    (q : ∀ h', Fr [] h h' → Q (.tup [.snap (setT t all of_ value).1.length ((setT t all of_ value).1.flatMap wrE), I (setT t all of_ value).2]) h') : C fn_txn_Txn_set [.ptr p 0, T all, T of_, T value, I 8] h Q := by
  refine ACall.conv ?_
  refine txn_Txn_set_ok _ _ _ _ _ _ _ ?_
  unfold txn_Txn_set
  (repeat (first | refine st_nil ?_ | refine st_fa ?_ | refine st_load1 ‹_› (.head _) rfl ?_))
  refine st_cat (by omega) (st_build rfl (st_buildS rfl rfl ?_))
  refine txNames_sp hI mg (by omega) s fun h1 f1 => ?_
  have s1 := s.after f1
  (repeat (first | refine st_nil ?_ | refine st_fa ?_ | refine st_load1 ‹_› (.head _) rfl ?_))
  have hpl : (namesT t all).length ≤ 90000 := by have := parts_len (s := (getT t all).getD []); unfold namesT; omega
  have rn : ∀ h : AHeap, Row nmE 1 h (.snap (namesT t all).length ((namesT t all).flatMap nmE)) (namesT t all) := fun h => Row.snap (enc := nmE) (fun _ => rfl) _
  refine contains_string_sp t.r.name (namesT t all) (by omega) (rn h1) ?_
  rw [any_mem]
  unfold setT at q
  have wkf : ∀ (n : Nat) (cs : List AV) (e : Int), Wk (.tup [.full n cs, I e]) (.tup [.snap n cs, I e]) := fun n cs e => Wk.tup (.cons (.full n cs) (.cons (.refl _) .nil))
  refine st_if (fun hc => ?_) (fun hc => ?_) <;> simp only [za, zb, zc, zd, ze, zf, zg, zh, zi, u8i, zj, zk, zl] at hc
  · rw [if_pos hc] at q
    exact ⟨_, _, .wk (wkf _ _ _) (.refl _ _), q h1 f1⟩
  · rw [if_neg hc] at q
    (repeat (first | refine st_lenL1 ?_ | refine st_geq ?_))
    refine st_if (fun h8 => ?_) (fun h8 => ?_) <;> simp only [za, zb, zc, zd, ze, zf, zg, zh, zi, u8i, zj, zk, zl] at h8
    · rw [if_pos (by omega)] at q
      exact ⟨_, _, .wk (wkf _ _ _) (.refl _ _), q h1 f1⟩
    · rw [if_neg (by omega)] at q
      (repeat (first | refine st_nil ?_ | refine st_fa ?_ | refine st_load1 ‹_› (.head _) rfl ?_))
      have hwl : (withM (namesT t all) t.r.name).length = (namesT t all).length + 1 := by unfold withM; rw [(sortL_perm _).length_eq]; simp
      refine with_sp hS (by omega) (ha hc) (rn h1) fun h2 f2 => ?_
      refine wlist_sp (by omega) hsum (Row.snap (enc := nmE) (fun _ => rfl) _) fun h3 f3 => ?_
      refine st_buildS rfl rfl ?_
      have s3 : St h [] h3 [] := ⟨(f1.trans f2 (by simp)).trans f3 (by simp), by simp, by simp, by simp⟩
      refine st_appF s3 rfl (Rd.full rfl) (by decide) (by decide) fun j h4 s4 => ?_
      have q4 := q _ (s4.kill .head).fr
      refine ⟨_, _, .frz j _ (s4.get (.head _)) (.refl _ _), ?_⟩
      simp only [fz, fzL]
      rw [if_pos ⟨trivial, Nat.le_refl _⟩]
      exact q4
theorem wgone_sp (hI : IndexOk) {pb p jg : Nat} {t : TxM} {td : AV} {xg : AObj} {all of_ : Str} (mg : MapS mbE t.got xg) (hl : ((getT t all).getD []).length < 90000) (hn : t.r.name.length < 1000) (hof : of_.length < 1000)
    (h1x : t.r.name ∈ namesT t all → namesT t all = [t.r.name]) (s : TxR h0 M h i pb p jg t td xg R)
    (q : ∀ h', Fr [] h h' → Q (.tup [.snap (goneT t all of_).1.length ((goneT t all of_).1.flatMap wrE), I (goneT t all of_).2]) h') : C fn_txn_Txn_gone [.ptr p 0, T all, T of_] h Q := by
  refine ACall.conv ?_
  refine txn_Txn_gone_ok _ _ _ _ _ ?_
  unfold txn_Txn_gone
  refine txNames_sp hI mg (by omega) s fun h1 f1 => ?_
  have s1 := s.after f1
  (repeat (first | refine st_nil ?_ | refine st_fa ?_ | refine st_load1 ‹_› (.head _) rfl ?_))
  have hpl : (namesT t all).length ≤ 90000 := by have := parts_len (s := (getT t all).getD []); unfold namesT; omega
  have rn : ∀ h : AHeap, Row nmE 1 h (.snap (namesT t all).length ((namesT t all).flatMap nmE)) (namesT t all) := fun h => Row.snap (enc := nmE) (fun _ => rfl) _
  refine contains_string_sp t.r.name (namesT t all) (by omega) (rn h1) ?_
  rw [any_mem]
  unfold goneT at q
  have wkf : ∀ (n : Nat) (cs : List AV) (e : Int), Wk (.tup [.full n cs, I e]) (.tup [.snap n cs, I e]) := fun n cs e => Wk.tup (.cons (.full n cs) (.cons (.refl _) .nil))
  (repeat refine st_not ?_)
  refine st_if (fun hc => ?_) (fun hc => ?_)
  · have hc : ¬ t.r.name ∈ namesT t all := by simpa using hc
    rw [if_neg hc] at q
    exact ⟨_, _, .wk (wkf _ _ _) (.refl _ _), q h1 f1⟩
  · have hc : t.r.name ∈ namesT t all := by simpa using hc
    rw [if_pos hc] at q
    have he := h1x hc
    (repeat (first | refine st_nil ?_ | refine st_fa ?_ | refine st_load1 ‹_› (.head _) rfl ?_))
    refine st_cat (by omega) (st_build rfl ?_)
    (repeat (first | refine st_nil ?_ | refine st_fa ?_ | refine st_load1 ‹_› (.head _) rfl ?_))
    have r1 := rn h1
    rw [he] at r1 q ⊢
    refine without_sp r1 fun h2 f2 => ?_
    have s2 := s1.after f2
    refine ⟨st_load1 s2 (.head _) rfl rfl, ?_⟩
    have hw0 : withoutM [t.r.name] t.r.name = [] := by simp [withoutM]
    rw [hw0] at q
    refine wlist_sp (l := []) (by simp) (by simp [sumL]) (Row.snap (enc := nmE) (fun _ => rfl) []) fun h3 f3 => ?_
    have s3 := s2.after f3
    refine ⟨st_load1 s3 (.head _) rfl rfl, ?_⟩
    refine st_buildS rfl rfl ?_
    exact ⟨_, _, .wk (wkf _ _ _) (.refl _ _), q h3 ((f1.trans f2 (by simp)).trans f3 (by simp))⟩
theorem changed_sp {pb p jg : Nat} {t : TxM} {td : AV} {xg : AObj} (mg : MapS mbE t.got xg) (hrow : ∀ k, (rowK m k).length < 1000000) (s : StoS h0 M h i m ((p, true, .cells (txC i pb t td (.map jg))) :: (jg, true, xg) :: R))
    (q : ∀ h', StoS h0 M h' i m ((p, true, .cells (txC i pb t td (.map jg))) :: (jg, true, xg) :: R) → Q (B (changedT t m)) h') : C fn_txn_Txn_changed [.ptr p 0] h Q := by
  refine txn_Txn_changed_ok _ _ _ ?_
  unfold txn_Txn_changed
  refine st_nil (st_fa (so_load1 s (.head _) rfl ?_))
  obtain ⟨es, n, rfl, r⟩ := mg
  obtain ⟨jp, jk, xp, xk, mp, mk, s⟩ := s
  refine st_rangeMS s (s.get (.tail _ (.tail _ (.tail _ (.tail _ (.head _)))))) fun it h1 s1 => ?_
  refine st_loop (fun c vs h' => ∃ done : List (Str × Nat × Option Str), (∀ x ∈ done, x ∈ es ∧ changedM m x.1 t.at_ = false) ∧ (done.map (·.2.1)).Nodup ∧ vs = [B false] ∧ St h0 M h' ((it, true, iterS jg n (done.map (·.2.1))) :: (sto3 i jp jk m xp xk ++ ((p, true, .cells (txC i pb t td (.map jg))) :: (jg, true, .amap (mE mbE es) n) :: R))) ∧ c + done.length = es.length) es.length ⟨[], by simp, by simp, rfl, s1, by simp⟩ ?_
  rintro c vs h2 ⟨done, hd, nd, rfl, s2, hc⟩
  unfold txn_Txn_changed_l4
  have fold : ∀ h', St h0 M h' (sto3 i jp jk m xp xk ++ ((p, true, .cells (txC i pb t td (.map jg))) :: (jg, true, .amap (mE mbE es) n) :: R)) → StoS h0 M h' i m ((p, true, .cells (txC i pb t td (.map jg))) :: (jg, true, .amap (mE mbE es) n) :: R) := fun h' s => ⟨jp, jk, xp, xk, mp, mk, s⟩
  refine st_nextMS s2 (s2.get (.tail _ (.tail _ (.tail _ (.tail _ (.tail _ (.head _))))))) r (fun hall => ?_) fun x hx hn h3 s3 => ?_
  · refine st_ext rfl (st_if (fun h => by cases h) (fun _ => ?_))
    have hp := done_perm r (fun x hx => (hd x hx).1) nd hall
    have : changedT t m = false := by
      unfold changedT
      rw [List.any_eq_false]
      intro y hy hcy
      obtain ⟨e, he, hey⟩ := List.mem_map.1 ((r.eq y).2 hy)
      have := (hd e (hp.mem_iff.2 he)).2
      rw [← hey] at hcy
      rw [this] at hcy; cases hcy
    rw [this] at q
    exact q _ (fold _ s2.drop1)
  · refine st_ext rfl (st_if (fun _ => ?_) (fun h => by cases h))
    refine st_entryMS s3 (.head _) (s3.get (.tail _ (.tail _ (.tail _ (.tail _ (.tail _ (.head _))))))) r hx ?_
    refine st_ext rfl ?_
    have s3' := fold _ s3.drop1
    refine st_nil (st_fa (so_load1 s3' (.head _) rfl ?_))
    refine st_nil (st_fa (so_load1 s3' (.head _) rfl ?_))
    refine stoChanged_sp (hrow _) s3' ?_
    have hxl : (x.1, x.2.2) ∈ t.got := (r.eq _).1 (List.mem_map.2 ⟨x, hx, rfl⟩)
    refine st_if (fun hcc => ?_) (fun hcc => ?_)
    · have : changedT t m = true := List.any_eq_true.2 ⟨_, hxl, hcc⟩
      rw [this] at q
      exact q _ s3'
    · have hnd : ((done ++ [x]).map (·.2.1)).Nodup := by
        rw [List.map_append, List.nodup_append]
        exact ⟨nd, by simp, fun a ha b hb e => by simp at hb; subst hb; subst e; exact hn ha⟩
      have hsub : ∀ y ∈ done ++ [x], y ∈ es ∧ changedM m y.1 t.at_ = false := fun y hy => by
        rcases List.mem_append.1 hy with h | h
        · exact hd y h
        · simp at h; subst h; exact ⟨hx, hcc⟩
      have := sub_len (a := done ++ [x]) (b := es) (List.Pairwise.of_map _ (fun _ _ h e => h (by rw [e])) hnd) fun y hy => (hsub y hy).1
      simp at this
      exact ⟨c - 1, by omega, done ++ [x], hsub, hnd, rfl, by rw [List.map_append]; exact s3, by simp; omega⟩
end
end
end Go.Proofs.YtamfimhaimaeiaaGreatDoor.AL
namespace Go.Proofs.YtamfimhaimaeiaaGreatDoor.AL
noncomputable section
structure DoneM where
  e : Int
  text : Str
  stamp : Int
  wrote : Bool
abbrev doneL (d : DoneM) : List AV := [I d.e, T d.text, .full 0 [], .full 0 [], I d.stamp, B d.wrote]
def showT (t : TxM) : Int × Str := match getT t ([102] ++ t.r.name) with | none => (9, []) | some v => (0, v)
def offT (t : TxM) : TxM := { t with over := true, trying := false }
def lastT (t : TxM) (m : StM) : Option DoneM × TxM × StM :=
  if t.r.kind = 4 then (some ⟨(showT t).1, (showT t).2, t.at_, false⟩, offT t, endM t m)
  else if (writesT t).2 ≠ 0 then (some ⟨(writesT t).2, [], t.at_, false⟩, offT t, endM t m)
  else if changedT t m = true then (if t.tries < 3 then (none, { t with trying := false }, endM t m) else (some ⟨11, [], 0, false⟩, offT t, endM t m))
  else if m.limit < countM m + (writesT t).1.length then (some ⟨13, [], 0, false⟩, offT t, endM t m)
  else (some ⟨0, [], m.now + 1, true⟩, offT t, endM t (commitM m (writesT t).1))
structure EndOk (t : TxM) (m : StM) : Prop where
  sto : StoOk m
  sto2 : StoOk (commitM m (writesT t).1)
  pin : PinOk m
  now : 0 ≤ m.now ∧ m.now < 1000000000
  val : ∀ k, ((getT t k).getD []).length < 90000
  nm : t.r.name.length < 100
  txt : t.r.text.length < 90000
  adj : t.r.name ∉ namesT t [100] → AdjNe (withM (namesT t [100]) t.r.name)
  sum : sumL (withM (namesT t [100]) t.r.name) < 1000000
  one : t.r.kind = 2 → t.r.name ∈ namesT t [100] → namesT t [100] = [t.r.name]
section
variable [Tabs]
variable {h0 h : AHeap} {M : List Nat} {L R R' : Own} {K : AV → Prop} {KH : QT} {KS' : AHeap → Prop} {Q : QT} {i : Nat} {m : StM}
theorem wwrites_sp (hI : IndexOk) (hS : SortOk) {pb p jg : Nat} {t : TxM} {td : AV} {xg : AObj} (hk : t.r.kind = 1 ∨ t.r.kind = 2 ∨ t.r.kind = 3) (mg : MapS mbE t.got xg) (ok : EndOk t m) (s : TxR h0 M h i pb p jg t td xg R)
    (q : ∀ h', Fr [] h h' → Q (.tup [.snap (writesT t).1.length ((writesT t).1.flatMap wrE), I (writesT t).2]) h') : C fn_txn_Txn_writes [.ptr p 0] h Q := by
  refine ACall.conv ?_
  refine txn_Txn_writes_ok _ _ _ ?_
  unfold txn_Txn_writes
  unfold writesT at q
  have hn := ok.nm
  (repeat (first | refine st_nil ?_ | refine st_fa ?_ | refine st_eql ?_ | refine st_load1 ‹_› (.head _) rfl ?_))
  refine st_if (fun h1 => ?_) (fun h1 => ?_) <;> simp only [za, zb, zc, zd, ze, zf, zg, zh, zi, u8i, zj, zk, zl] at h1
  · rw [if_pos h1] at q
    (repeat (first | refine st_nil ?_ | refine st_fa ?_ | refine st_load1 ‹_› (.head _) rfl ?_))
    refine wset_sp hI hS mg (ok.val _) (by omega) (by decide) ok.adj ok.sum s fun h1 f1 => ?_
    refine st_ext rfl (st_ext rfl ?_)
    exact ⟨_, _, .refl _ _, q h1 f1⟩
  · rw [if_neg h1] at q
    (repeat refine st_eql ?_)
    refine st_if (fun h => by exfalso; simp at h; omega) (fun _ => ?_)
    (repeat refine st_eql ?_)
    refine st_if (fun h2 => ?_) (fun h2 => ?_) <;> simp only [za, zb, zc, zd, ze, zf, zg, zh, zi, u8i, zj, zk, zl] at h2
    · rw [if_pos h2] at q
      refine wgone_sp hI mg (ok.val _) (by omega) (by decide) (ok.one h2) s fun h1 f1 => ?_
      refine st_ext rfl (st_ext rfl ?_)
      exact ⟨_, _, .refl _ _, q h1 f1⟩
    · rw [if_neg h2] at q
      (repeat refine st_eql ?_)
      refine st_if (fun h => by exfalso; simp at h; omega) (fun _ => ?_)
      (repeat (first | refine st_nil ?_ | refine st_fa ?_ | refine st_load1 ‹_› (.head _) rfl ?_))
      have hl := ok.val [100]
      refine txNames_sp hI mg (by omega) s fun h1 f1 => ?_
      have s1 := s.after f1
      refine ⟨st_load1 s1 (.head _) rfl rfl, ?_⟩
      have hpl : (namesT t [100]).length ≤ 90000 := by have := parts_len (s := (getT t [100]).getD []); unfold namesT; omega
      refine contains_string_sp t.r.name (namesT t [100]) (by omega) (Row.snap (enc := nmE) (fun _ => rfl) _) ?_
      rw [any_mem]
      refine st_not ?_
      refine st_if (fun hc => ?_) (fun hc => ?_)
      · have hc : ¬ t.r.name ∈ namesT t [100] := by simpa using hc
        rw [if_neg hc] at q
        exact ⟨_, _, .wk (Wk.tup (.cons (.full _ _) (.cons (.refl _) .nil))) (.refl _ _), q h1 f1⟩
      · have hc : t.r.name ∈ namesT t [100] := by simpa using hc
        rw [if_pos hc] at q
        (repeat (first | refine st_nil ?_ | refine st_fa ?_ | refine st_load1 ‹_› (.head _) rfl ?_))
        refine st_cat (by simp; omega) ?_
        refine st_lookS0 (s1.get (.tail _ (.head _))) mg ?_
        have e : ((lookK ([102] ++ t.r.name) t.got).map mbE).getD (.agg [S ⟨#[]⟩, B false]) = .agg [T ((getT t ([102] ++ t.r.name)).getD []), B (getT t ([102] ++ t.r.name)).isSome] := by
          unfold getT; cases lookK ([102] ++ t.r.name) t.got with
          | none => rfl
          | some o => rfl
        rw [e]
        have hv := ok.val ([102] ++ t.r.name)
        have ht := ok.txt
        (repeat (first | refine st_nil ?_ | refine st_fa ?_ | refine st_load1 ‹_› (.head _) rfl ?_ | refine st_part1 rfl ?_))
        refine st_cat (by omega) ?_
        (repeat (first | refine st_lenS ?_ | refine st_gtr ?_))
        refine st_if (fun hb => ?_) (fun hb => ?_) <;> simp only [za, zb, zc, zd, ze, zf, zg, zh, zi, u8i, zj, zk, zl] at hb
        · rw [if_pos (by rw [List.length_append] at hb ⊢; omega)] at q
          exact ⟨_, _, .wk (Wk.tup (.cons (.full _ _) (.cons (.refl _) .nil))) (.refl _ _), q h1 f1⟩
        · rw [if_neg (by rw [List.length_append] at hb ⊢; omega)] at q
          refine wset_sp hI hS mg (ok.val _) (by omega) (by decide) ok.adj ok.sum s1 fun h2 f2 => ?_
          refine st_ext rfl (st_ext rfl ?_)
          exact ⟨_, _, .refl _ _, q h2 (f1.trans f2 (by simp))⟩
theorem wtold_sp {pb p : Nat} {t : TxM} {td gt : AV} {d : DoneM} (s : StoS h0 M h i m ((p, true, .cells (txC i pb t td gt)) :: R))
    (q : ∀ h', StoS h0 M h' i m ((p, true, .cells (txC i pb { t with over := true } td gt)) :: R) → Q (.tup [.agg (doneL d), B true]) h') : C fn_txn_Txn_told [.ptr p 0, .agg (doneL d)] h Q := by
  refine txn_Txn_told_ok _ _ _ _ ?_
  unfold txn_Txn_told
  refine so_box s rfl fun p3 h1 s1 => ?_
  refine so_new s1 fun p4 h2 s2 => ?_
  refine st_nil (st_fa (so_store s2 (.tail (.tail .head)) rfl rfl rfl (nle rfl) fun h3 s3 => ?_))
  refine so_loadA s3 (.tail _ (.head _)) (nle rfl) ?_
  refine so_store s3 .head rfl rfl rfl (nle rfl) fun h4 s4 => ?_
  refine so_loadA s4 (.head _) (nle rfl) ?_
  exact q h4 (s4.sub (((List.Sublist.refl _).cons _).cons _))
theorem wshow_sp {pb p jg : Nat} {t : TxM} {td : AV} {xg : AObj} (mg : MapS mbE t.got xg) (hn : t.r.name.length < 1000) (s : StoS h0 M h i m ((p, true, .cells (txC i pb t td (.map jg))) :: (jg, true, xg) :: R))
    (q : ∀ h', StoS h0 M h' i m ((p, true, .cells (txC i pb t td (.map jg))) :: (jg, true, xg) :: R) → Q (reE (showT t).1 (showT t).2) h') : C fn_txn_Txn_show [.ptr p 0] h Q := by
  refine txn_Txn_show_ok _ _ _ ?_
  unfold txn_Txn_show
  refine so_new s fun p2 h1 s1 => ?_
  refine st_nil (st_fa (so_load1 s1 (.tail _ (.head _)) rfl ?_))
  refine st_nil (st_fa (st_fa (so_load1 s1 (.tail _ (.head _)) rfl (st_cat (by simp; omega) ?_))))
  refine st_lookS0 (s1.rest.get (.tail _ (.tail _ (.head _)))) mg ?_
  have e : ((lookK ([102] ++ t.r.name) t.got).map mbE).getD (.agg [S ⟨#[]⟩, B false]) = .agg [T ((getT t ([102] ++ t.r.name)).getD []), B (getT t ([102] ++ t.r.name)).isSome] := by
    unfold getT; cases lookK ([102] ++ t.r.name) t.got with
    | none => rfl
    | some o => rfl
  have e2 : ((lookK (102 :: t.r.name) t.got).map mbE).getD (.agg [S ⟨#[]⟩, B false]) = .agg [T ((getT t ([102] ++ t.r.name)).getD []), B (getT t ([102] ++ t.r.name)).isSome] := e
  refine so_new s1 fun p3 h2 s2 => ?_
  refine ⟨st_lookS0 (s2.rest.get (.tail _ (.tail _ (.tail _ (.head _))))) mg rfl, so_load1 s2 (.tail _ (.tail _ (.head _))) rfl rfl, so_load1 s2 (.tail _ (.tail _ (.head _))) rfl rfl, ?_⟩
  rw [show ([102] ++ t.r.name : Str) = 102 :: t.r.name from rfl, e2]
  refine so_store s2 .head rfl rfl rfl (nle rfl) fun h3 s3 => ?_
  refine st_fa (so_load1 s3 (.head _) rfl (st_not ?_))
  unfold showT at q
  cases hg : getT t ([102] ++ t.r.name) with
  | none =>
    rw [hg] at q s3
    refine st_if (fun _ => ?_) (fun h => by cases h)
    refine st_build rfl (so_store s3 (.tail .head) rfl rfl rfl (nle rfl) fun h4 s4 => ?_)
    refine so_loadA s4 (.tail _ (.head _)) (nle rfl) ?_
    exact q h4 (s4.sub (((List.Sublist.refl _).cons _).cons _))
  | some v =>
    rw [hg] at q s3
    refine st_if (fun h => by cases h) (fun _ => ?_)
    refine st_fa (so_load1 s3 (.head _) rfl ?_)
    refine st_build rfl (so_store s3 (.tail .head) rfl rfl rfl (nle rfl) fun h4 s4 => ?_)
    refine so_loadA s4 (.tail _ (.head _)) (nle rfl) ?_
    exact q h4 (s4.sub (((List.Sublist.refl _).cons _).cons _))
end
end
end Go.Proofs.YtamfimhaimaeiaaGreatDoor.AL
namespace Go.Proofs.YtamfimhaimaeiaaGreatDoor.AL
noncomputable section
section
variable [Tabs]
variable {h0 h : AHeap} {M : List Nat} {L R R' : Own} {K : AV → Prop} {KH : QT} {KS' : AHeap → Prop} {Q : QT} {i : Nat} {m : StM}
abbrev zDone : List AV := [I 0, S ⟨#[]⟩, .full 0 [], .full 0 [], I 0, B false]
abbrev txL (i pb p jg : Nat) (t : TxM) (td : AV) (xg : AObj) (R : Own) : Own := (p, true, .cells (txC i pb t td (.map jg))) :: (jg, true, xg) :: R
theorem st_nilF1 {f : FuncId} {fi ca : List AV} (k : K (B true)) : qIsNilF .neq (.fn (.func f) fi ca) K := ⟨k⟩
theorem st_nilF0 (k : K (B false)) : qIsNilF .neq (.lit .nilFunc) K := ⟨k⟩
theorem told_end (hks : KVOk) {pb p jg p2 : Nat} {t : TxM} {td : AV} {xg : AObj} {d : DoneM} {o : List AV} (ok : StoOk m) (hp : PinOk m) (ho : o.length = 6) (s : StoS h0 M h i m ((p2, true, .cells o) :: txL i pb p jg t td xg R))
    (q : ∀ h', StoS h0 M h' i (endM t m) (txL i pb p jg (offT t) td xg R) → Q (.tup [.agg (doneL d), B true]) h') :
    C fn_txn_Txn_told [.ptr p 0, .agg (doneL d)] h fun t32 h2 => qExtract 0 t32 fun t33 => qExtract 1 t32 fun t34 => qStore 6 (.ptr p2 0) t33 h2 fun h3 => CD fn_txn_Txn_end [.ptr p 0] h3 fun _ h4 => qLoadA 6 (.ptr p2 0) h4 fun r5 => Q (.tup [r5, t34]) h4 := by
  have s := s.perm (R' := (p, true, .cells (txC i pb t td (.map jg))) :: (p2, true, .cells o) :: (jg, true, xg) :: R) (.swap _ _ _)
  refine wtold_sp s fun h1 s1 => ?_
  refine st_ext rfl (st_ext rfl ?_)
  refine so_store s1 (.tail .head) rfl rfl rfl (by rw [ho]; exact Nat.le_refl _) fun h2 s2 => ?_
  refine txEnd_sp hks ok hp s2 fun h3 s3 => ?_
  have hs : splice o 0 (AV.cells (.agg (doneL d))) = doneL d := by
    match o, ho with
    | [a, b, c, d, e, f], _ => rfl
  rw [hs] at s3
  refine so_loadA s3 (.tail _ (.head _)) (nle rfl) ?_
  exact q h3 (s3.sub (((List.Sublist.refl _).cons _).cons_cons _))
theorem last_sp (hI : IndexOk) (hS : SortOk) (hks : KVOk) {pb p jg : Nat} {t : TxM} {td : AV} {xg : AObj} (h4 : t.r.kind = 1 ∨ t.r.kind = 2 ∨ t.r.kind = 3 ∨ t.r.kind = 4) (mg : MapS mbE t.got xg) (ok : EndOk t m) (s : StoS h0 M h i m (txL i pb p jg t td xg R))
    (q : ∀ h', StoS h0 M h' i (lastT t m).2.2 (txL i pb p jg (lastT t m).2.1 td xg R) → Q (.tup [.agg (doneL ((lastT t m).1.getD ⟨0, [], 0, false⟩)), B (lastT t m).1.isSome]) h') : C fn_txn_Txn_last [.ptr p 0] h Q := by
  refine txn_Txn_last_ok _ _ _ ?_
  unfold txn_Txn_last txn_Txn_last_b29 txn_Txn_last_j28
  have hn := ok.nm
  refine so_new s fun p2 h1 s1 => ?_
  refine st_nil (st_fa (st_fa (so_load1 s1 (.tail _ (.head _)) rfl (st_eql ?_))))
  unfold lastT at q
  refine st_if (fun hk4 => ?_) (fun hk4 => ?_) <;> simp only [za, zb, zc, zd, ze, zf, zg, zh, zi, u8i, zj, zk, zl] at hk4
  · rw [if_pos hk4] at q
    refine st_nilF1 ?_
    refine st_if (fun _ => ?_) (fun h => by cases h)
    refine st_nil (st_fa (so_load1 s1 (.tail _ (.head _)) rfl ?_))
    show ACall Pg fn_txn_Txn_show ([.ptr p 0] ++ [] ++ []) h1 _
    have s1' := s1.perm (R' := txL i pb p jg t td xg ((p2, true, .cells zDone) :: R)) (by
      exact (List.Perm.swap _ _ _).trans (.cons _ (.swap _ _ _)))
    refine wshow_sp mg (by omega) s1' fun h2 s2 => ?_
    refine ⟨so_load1 s2 (.head _) rfl rfl, ?_⟩
    refine st_build (cs := doneL ⟨(showT t).1, (showT t).2, t.at_, false⟩) rfl ?_
    have s2 := s2.perm (R' := (p2, true, .cells zDone) :: txL i pb p jg t td xg R) (by
      exact ((List.Perm.swap _ _ _).cons _).trans (.swap _ _ _))
    refine told_end hks ok.sto ok.pin rfl s2 fun h3 s3 => ?_
    exact q h3 s3
  · rw [if_neg hk4] at q
    (repeat refine st_eql ?_)
    refine st_if (fun h => by exfalso; simp at h; omega) (fun _ => ?_)
    refine st_nilF0 ?_
    refine st_if (fun h => by cases h) (fun _ => ?_)
    have s1r : TxR h0 M h1 i pb p jg t td xg R := s1.rest.drop1
    refine wwrites_sp hI hS (by omega) mg ok s1r fun h2 f2 => ?_
    have s2 := s1.after f2
    refine st_ext rfl (st_ext rfl (st_neq ?_))
    refine st_if (fun he => ?_) (fun he => ?_) <;> simp only [za, zb, zc, zd, ze, zf, zg, zh, zi, u8i, zj, zk, zl] at he
    · rw [if_pos he] at q
      refine st_build rfl ?_
      refine st_nil (st_fa (so_load1 s2 (.tail _ (.head _)) rfl ?_))
      refine st_build (cs := doneL ⟨(writesT t).2, [], t.at_, false⟩) rfl ?_
      refine told_end hks ok.sto ok.pin rfl s2 fun h3 s3 => ?_
      exact q h3 s3
    · rw [if_neg (by simpa using he)] at q
      have s2' := s2.perm (R' := txL i pb p jg t td xg ((p2, true, .cells zDone) :: R)) (by
        exact (List.Perm.swap _ _ _).trans (.cons _ (.swap _ _ _)))
      have hsc := ok.sto.c
      refine changed_sp mg (fun k => by have := rowK_len (m := m) (k := k); omega) s2' fun h3 s3 => ?_
      have s3 := s3.perm (R' := (p2, true, .cells zDone) :: txL i pb p jg t td xg R) (by
        exact ((List.Perm.swap _ _ _).cons _).trans (.swap _ _ _))
      refine st_if (fun hc => ?_) (fun hc => ?_)
      · rw [if_pos hc] at q
        refine st_nil (st_fa (so_load1 s3 (.tail _ (.head _)) rfl (st_lss ?_)))
        refine st_if (fun ht => ?_) (fun ht => ?_) <;> simp only [za, zb, zc, zd, ze, zf, zg, zh, zi, u8i, zj, zk, zl] at ht
        · rw [if_pos ht] at q
          refine st_build rfl ?_
          refine so_store s3 .head rfl rfl rfl (nle rfl) fun h4 s4 => ?_
          have s4 := s4.perm (R' := (p, true, .cells (txC i pb t td (.map jg))) :: (p2, true, .cells zDone) :: (jg, true, xg) :: R) (.swap _ _ _)
          refine txEnd_sp hks ok.sto ok.pin s4 fun h5 s5 => ?_
          refine so_loadA s5 (.tail _ (.head _)) (nle rfl) ?_
          exact q h5 (s5.sub (((List.Sublist.refl _).cons _).cons_cons _))
        · rw [if_neg (by omega)] at q
          refine st_build rfl (st_build (cs := doneL ⟨11, [], 0, false⟩) rfl ?_)
          refine told_end hks ok.sto ok.pin rfl s3 fun h4 s4 => ?_
          exact q h4 s4
      · rw [if_neg (by rw [hc]; simp)] at q
        refine st_nil (st_fa (so_load1 s3 (.tail _ (.head _)) rfl ?_))
        have hws : (writesT t).1.length < 1000000 ∧ ((writesT t).2 = 0 → ∃ a bs, (writesT t).1 = a :: bs ∧ (bs = [] ∨ ∃ b, bs = [b] ∧ b.key ≠ a.key)) := by
          have hset : ∀ v, (setT t [100] [102] v).1.length < 1000000 ∧ ((setT t [100] [102] v).2 = 0 → ∃ a bs, (setT t [100] [102] v).1 = a :: bs ∧ (bs = [] ∨ ∃ b, bs = [b] ∧ b.key ≠ a.key)) := fun v => by
            unfold setT
            split
            · exact ⟨by simp, fun _ => ⟨_, _, rfl, .inl rfl⟩⟩
            · split
              · exact ⟨by simp, fun h => by cases h⟩
              · exact ⟨by simp, fun _ => ⟨_, _, rfl, .inr ⟨_, rfl, by simp⟩⟩⟩
          unfold writesT
          split
          · exact hset _
          · split
            · unfold goneT
              split
              · exact ⟨by simp, fun _ => ⟨_, _, rfl, .inr ⟨_, rfl, by simp⟩⟩⟩
              · exact ⟨by simp, fun h => by cases h⟩
            · split
              · split
                · exact ⟨by simp, fun h => by cases h⟩
                · exact hset _
              · exact ⟨by simp, fun h => by cases h⟩
        by_cases hf : m.limit < countM m + (writesT t).1.length
        · rw [if_pos hf] at q
          refine commit_no_sp ok.sto hws.1 s3 hf fun h4 s4 => ?_
          refine st_ext rfl (st_ext rfl (st_neq ?_))
          refine st_if (fun _ => ?_) (fun h => by simp at h)
          refine st_build rfl (st_build (cs := doneL ⟨13, [], 0, false⟩) rfl ?_)
          refine told_end hks ok.sto ok.pin rfl s4 fun h5 s5 => ?_
          exact q h5 s5
        · rw [if_neg hf] at q
          obtain ⟨a, bs, hab, hbs⟩ := hws.2 (by simpa using he)
          have hcm := ok.sto2
          rw [hab] at hf q hcm ⊢
          refine commit_sp hbs ok.sto ok.now s3 (by omega) fun h4 s4 => ?_
          refine st_ext rfl (st_ext rfl (st_neq ?_))
          refine st_if (fun h => by simp at h) (fun _ => ?_)
          refine st_build (cs := doneL ⟨0, [], m.now + 1, true⟩) rfl ?_
          refine told_end hks hcm ⟨ok.pin.b⟩ rfl s4 fun h5 s5 => ?_
          exact q h5 s5
end
end
end Go.Proofs.YtamfimhaimaeiaaGreatDoor.AL
namespace Go.Proofs.YtamfimhaimaeiaaGreatDoor.AL
noncomputable section
def goT (t : TxM) (m : StM) : Option DoneM × TxM × StM := if t.todo = [] then lastT t m else (none, readT t m, m)
def stepT (t : TxM) (m : StM) : Option DoneM × TxM × StM :=
  if t.over = true then (none, t, m)
  else if rightM t.r = false then (some ⟨12, [], 0, false⟩, { t with over := true }, m)
  else if t.trying = true then goT t m else goT (beginT t m) (pinM m)
structure GoOk (t : TxM) (m : StM) : Prop where
  nm : t.r.name.length < 100
  rd : ∀ k rest, t.todo = k :: rest → rest.length < 100000 ∧ (rowK m k).length < 1000000 ∧ ((readM m k t.at_).getD []).length < 1000000000
  en : t.todo = [] → EndOk t m
structure StepOk (t : TxM) (m : StM) : Prop where
  nm : t.r.name.length < 100
  kd : rightM t.r = true → t.r.kind = 1 ∨ t.r.kind = 2 ∨ t.r.kind = 3 ∨ t.r.kind = 4
  tr : -1000 < t.tries ∧ t.tries < 1000
  pin : PinOk m
  go : t.over = false → rightM t.r = true → t.trying = true → GoOk t m
  go2 : t.over = false → rightM t.r = true → t.trying = false → GoOk (beginT t m) (pinM m)
section
variable [Tabs]
variable {h0 h : AHeap} {M : List Nat} {L R R' : Own} {K : AV → Prop} {KH : QT} {KS' : AHeap → Prop} {Q : QT} {i : Nat} {m : StM}
abbrev optD (d : Option DoneM) : AV := .agg (doneL (d.getD ⟨0, [], 0, false⟩))
theorem go_sp (hI : IndexOk) (hS : SortOk) (hks : KVOk) {pb p jg p2 : Nat} {t : TxM} {td : AV} {xg : AObj} (hb : ∃ e ∈ R, e.1 = pb) (h4 : t.r.kind = 1 ∨ t.r.kind = 2 ∨ t.r.kind = 3 ∨ t.r.kind = 4) (htd : tdE t.todo td) (mg : MapS mbE t.got xg) (ok : GoOk t m) (s : StoS h0 M h i m (txL i pb p jg t td xg ((p2, true, .cells zDone) :: R)))
    (q : ∀ E' h', TxO i pb p (goT t m).2.1 E' → StoS h0 M h' i (goT t m).2.2 (E' ++ R) → Q (.tup [optD (goT t m).1, B (goT t m).1.isSome]) h') : txn_Txn_Step_j14 (.ptr p2 0) (.ptr p 0) h Q := by
  unfold txn_Txn_Step_j14
  refine st_nil (st_fa (so_load1 s (.head _) rfl ?_))
  refine (htd.row (h := h)).len (st_gtr ?_)
  unfold goT at q
  refine st_if (fun hc => ?_) (fun hc => ?_) <;> simp only [za, zb, zc, zd, ze, zf, zg, zh, zi, u8i, zj, zk, zl] at hc
  · have hne : t.todo ≠ [] := fun e => by rw [e] at hc; simp at hc
    rw [if_neg hne] at q
    obtain ⟨k, rest, hto⟩ := List.exists_cons_of_ne_nil hne
    obtain ⟨o1, o2, o3⟩ := ok.rd k rest hto
    show ACall Pg fn_txn_Txn_read ([] ++ [.ptr p 0] ++ []) h _
    obtain ⟨e, he, hpb⟩ := hb
    refine txRead_sp hI (by omega) htd hto o1 mg (by have := ok.nm; omega) o2 o3 ⟨e, by simp [he], hpb⟩ s fun td' xg' h1 htd' mg' s1 => ?_
    refine st_build (cs := zDone) rfl ?_
    refine so_store s1 (.tail (.tail .head)) rfl rfl rfl (nle rfl) fun h2 s2 => ?_
    refine so_loadA s2 (.tail _ (.tail _ (.head _))) (nle rfl) ?_
    exact q _ h2 (.on htd' mg') (s2.sub ((((List.Sublist.refl _).cons _).cons_cons _).cons_cons _))
  · have he : t.todo = [] := List.length_eq_zero_iff.1 (by omega)
    rw [if_pos he] at q
    have hreq : (lastT t m).2.1.todo = t.todo ∧ (lastT t m).2.1.got = t.got := by
      unfold lastT offT
      repeat' split
      all_goals exact ⟨rfl, rfl⟩
    refine last_sp hI hS hks h4 mg (ok.en he) s fun h1 s1 => ?_
    refine st_ext rfl (st_ext rfl ?_)
    refine so_store s1 (.tail (.tail .head)) rfl rfl rfl (nle rfl) fun h2 s2 => ?_
    refine so_loadA s2 (.tail _ (.tail _ (.head _))) (nle rfl) ?_
    exact q _ h2 (.on (by rw [hreq.1]; exact htd) (by rw [hreq.2]; exact mg)) (s2.sub ((((List.Sublist.refl _).cons _).cons_cons _).cons_cons _))
theorem step_sp (hI : IndexOk) (hS : SortOk) (hks : KVOk) {pb p : Nat} {t : TxM} {E : Own} (hb : ∃ e ∈ R, e.1 = pb) (ok : StepOk t m) (o : TxO i pb p t E) (s : StoS h0 M h i m (E ++ R))
    (q : ∀ E' h', TxO i pb p (stepT t m).2.1 E' → StoS h0 M h' i (stepT t m).2.2 (E' ++ R) → Q (.tup [optD (stepT t m).1, B (stepT t m).1.isSome]) h') : C fn_txn_Txn_Step [.ptr p 0] h Q := by
  refine txn_Txn_Step_ok _ _ _ ?_
  unfold txn_Txn_Step txn_Txn_Step_b15
  have hnm := ok.nm
  unfold stepT at q
  refine so_new s fun p2 h1 s1 => ?_
  obtain ⟨td, gt, E0, rfl, hE⟩ : ∃ td gt E0, E = (p, true, .cells (txC i pb t td gt)) :: E0 ∧ (∀ t', t'.r = t.r → t'.todo = t.todo → t'.got = t.got → t'.trying = t.trying → TxO i pb p t' ((p, true, .cells (txC i pb t' td gt)) :: E0)) := by
    cases o with
    | no e hn hg => exact ⟨_, _, _, rfl, fun t' _ h2 h3 h4 => .no (by rw [h2]; exact e) (by rw [h4]; exact hn) (by rw [h3]; exact hg)⟩
    | on e mg => exact ⟨_, _, _, rfl, fun t' _ h2 h3 _ => .on (by rw [h2]; exact e) (by rw [h3]; exact mg)⟩
  refine st_nil (st_fa (so_load1 s1 (.tail _ (.head _)) rfl ?_))
  refine st_if (fun ho => ?_) (fun ho => ?_)
  · rw [if_pos ho] at q
    refine st_build (cs := zDone) rfl ?_
    refine so_store s1 .head rfl rfl rfl (nle rfl) fun h2 s2 => ?_
    refine so_loadA s2 (.head _) (nle rfl) ?_
    exact q _ h2 (hE t rfl rfl rfl rfl) (s2.sub ((List.Sublist.refl _).cons _))
  · rw [if_neg (by rw [ho]; simp)] at q
    refine st_nil (st_fa (so_loadA s1 (.tail _ (.head _)) (nle rfl) ?_))
    refine wRight_sp t.r (by omega) fun h2 f2 => ?_
    have s2 := s1.after f2
    refine st_not ?_
    refine st_if (fun hr => ?_) (fun hr => ?_) <;> simp only [Bool.not_eq_true', Bool.not_eq_false'] at hr
    · rw [if_pos hr] at q
      refine st_build rfl (st_build (cs := doneL ⟨12, [], 0, false⟩) rfl ?_)
      have s2 := s2.perm (R' := (p, true, .cells (txC i pb t td gt)) :: (p2, true, .cells zDone) :: (E0 ++ R)) (.swap _ _ _)
      refine wtold_sp s2 fun h3 s3 => ?_
      refine st_ext rfl (st_ext rfl ?_)
      refine so_store s3 (.tail .head) rfl rfl rfl (nle rfl) fun h4 s4 => ?_
      refine so_loadA s4 (.tail _ (.head _)) (nle rfl) ?_
      exact q _ h4 (hE { t with over := true } rfl rfl rfl rfl) (s4.sub (((List.Sublist.refl _).cons _).cons_cons _))
    · rw [if_neg (by rw [hr]; simp)] at q
      have h4 := ok.kd hr
      refine st_nil (st_fa (so_load1 s2 (.tail _ (.head _)) rfl (st_not ?_)))
      refine st_if (fun ht => ?_) (fun ht => ?_) <;> simp only [Bool.not_eq_true', Bool.not_eq_false'] at ht
      · rw [if_neg (by rw [ht]; simp)] at q
        have s2 := s2.perm (R' := (p, true, .cells (txC i pb t td gt)) :: (p2, true, .cells zDone) :: (E0 ++ R)) (.swap _ _ _)
        refine txPin_sp h4 (by omega) ok.tr ok.pin s2 fun td' jg h3 htd' s3 => ?_
        have s3 : StoS h0 M h3 i (pinM m) (txL i pb p jg (beginT t m) td' (.amap [] 0) ((p2, true, .cells zDone) :: R)) := s3.sub ((((List.sublist_append_right E0 R).cons_cons _).cons_cons _).cons_cons _)
        exact go_sp (t := beginT t m) (m := pinM m) hI hS hks hb h4 htd' (.nil mbE) (ok.go2 ho hr ht) s3 q
      · rw [if_pos ht] at q
        cases o with
        | no e hn hg => rw [hn] at ht; cases ht
        | on e mg =>
          have s2 := s2.perm (R' := txL i pb p _ t td _ ((p2, true, .cells zDone) :: R)) (by
            exact (List.Perm.swap _ _ _).trans (.cons _ (.swap _ _ _)))
          exact go_sp hI hS hks hb h4 e mg (ok.go ho hr ht) s2 q
end
end
end Go.Proofs.YtamfimhaimaeiaaGreatDoor.AL
namespace Go.Proofs.YtamfimhaimaeiaaGreatDoor.AL
noncomputable section
section
variable [Tabs]
variable {h0 h : AHeap} {M : List Nat} {L R : Own} {K : AV → Prop} {Q : QT}
theorem st_cload {a : AV} {l : List AV} (k : K a) : qLoad1 (.cptr (a :: l)) h K := st_pload1 (l := []) (.inr ⟨_, rfl, by simp, by simp⟩) k
end
end
end Go.Proofs.YtamfimhaimaeiaaGreatDoor.AL
namespace Go.Proofs.YtamfimhaimaeiaaGreatDoor.AL
noncomputable section
section
variable [Tabs]
variable {h0 h : AHeap} {M : List Nat} {L R R' : Own} {K : AV → Prop} {KH : QT} {KS' : AHeap → Prop} {Q : QT} {i : Nat} {m : StM}
theorem law10_within_sp {a n : Int} (hn : 0 < n) (hn2 : n ≤ 1000000000000000000) (ha : -9223372036854775808 ≤ a ∧ a ≤ 9223372036854775807) (k : Q (I (a % n)) h) : C fn_law10_within [I a, I n] h Q := by
  refine law10_within_ok _ _ _ _ ?_
  unfold law10_within
  refine st_rem (by omega) ?_
  have h0 := Int.emod_nonneg a (show n ≠ 0 by omega)
  have h4 := Int.emod_lt_of_pos a hn
  have h3 := mod_cases ha hn
  refine st_lss ?_
  refine st_if (fun hb => ?_) (fun hb => ?_) <;> simp only [za, zb, zc, zd, ze, zf, zg, zh, zi, u8i, zj, zk, zl] at hb
  · refine st_add (by omega) ?_
    rw [show a.tmod n + n = a % n by omega]
    exact k
  · rw [← show a.tmod n = a % n by omega] at k
    exact k
theorem soBegin {pb : Nat} {r : Rq} (s : StoS h0 M h i m R) (q : ∀ p E h', TxO i pb p ⟨r, 0, false, false, 0, [], []⟩ E → StoS h0 M h' i m (E ++ R) → Q (.ptr p 0) h') : C fn_txn_Begin [.ptr i 0, .ptr pb 0, rqE r] h Q := by
  obtain ⟨jp, jk, xp, xk, a, b, s⟩ := s
  refine txBegin_sp s fun p E h' o s' => q p E h' o ⟨jp, jk, xp, xk, a, b, s'.perm ?_⟩
  exact List.perm_append_comm_assoc E [_, _, _] R
theorem soTries {pb : Nat} {p : Nat} {t : TxM} {E : Own} (o : TxO i pb p t E) (s : StoS h0 M h i m (E ++ R)) (q : Q (I t.tries) h) : C fn_txn_Txn_Tries [.ptr p 0] h Q := by
  exact txTries_sp o s.rest q
theorem incrNew_sp (s : StoS h0 M h i m R) (q : ∀ j pb h', StoS h0 M h' i m ((pb, true, .cells [.map j, .full 0 [], I 0]) :: (j, true, .amap [] 0) :: R) → Q (.ptr pb 0) h') : C fn_incr_New [] h Q := by
  refine incr_New_ok _ _ ?_
  unfold incr_New
  refine so_makeMap s fun j h1 s1 => ?_
  refine st_build rfl ?_
  refine so_box s1 rfl fun pb h2 s2 => ?_
  exact q j pb h2 s2
end
end
end Go.Proofs.YtamfimhaimaeiaaGreatDoor.AL
namespace Go.Proofs.YtamfimhaimaeiaaGreatDoor.AL
noncomputable section
theorem lookK_in {α β : Type} [Ky α] {k : α} {v : β} : ∀ {l : KM α β}, lookK k l = some v → (k, v) ∈ l
  | [], h => by simp [lookK] at h
  | (a, b) :: l, h => by
    unfold lookK at h
    split at h
    · rename_i e; cases h; subst e; simp
    · exact List.mem_cons_of_mem _ (lookK_in h)
def pinB (m : StM) : Bool := m.pins.all fun x => decide (x.2 < 1000000000) && decide (-1000000000 < x.2)
theorem pinB_ok {m : StM} (h : pinB m = true) : PinOk m := ⟨fun k v e => by
  have := List.all_eq_true.1 h _ (lookK_in e)
  simpa using this⟩
def stoB (m : StM) : Bool := decide (m.keys.length ≤ 100000) && (m.keys.all (fun x => decide (x.1.length ≤ 1000000)) && decide (countM m < 500000))
theorem stoB_ok {m : StM} (h : stoB m = true) : StoOk m := by
  unfold stoB at h
  simp only [Bool.and_eq_true, decide_eq_true_eq, List.all_eq_true] at h
  exact ⟨h.1, h.2.1, h.2.2⟩
def adjB : List Str → Bool
  | a :: b :: l => decide (a ≠ b) && adjB (b :: l)
  | _ => true
theorem adjB_ok : ∀ {l : List Str}, adjB l = true → AdjNe l
  | [], _ => fun q h => by simp at h
  | [a], _ => fun q h => by simp at h
  | a :: b :: l, h => by
    unfold adjB at h
    simp only [Bool.and_eq_true, decide_eq_true_eq] at h
    intro q hq
    cases q with
    | zero => exact h.1
    | succ q => exact adjB_ok h.2 q (by simpa using hq)
def endB (t : TxM) (m : StM) : Bool :=
  stoB m && (stoB (commitM m (writesT t).1) && (pinB m && (decide (0 ≤ m.now) && (decide (m.now < 1000000000) && (t.got.all (fun x => decide ((x.2.getD []).length < 90000)) && (decide (t.r.name.length < 100) && (decide (t.r.text.length < 90000) &&
  ((decide (t.r.name ∈ namesT t [100]) || adjB (withM (namesT t [100]) t.r.name)) && (decide (AL.sumL (withM (namesT t [100]) t.r.name) < 1000000) && (decide (t.r.kind ≠ 2) || (decide (t.r.name ∉ namesT t [100]) || decide (namesT t [100] = [t.r.name]))))))))))))
theorem endB_ok {t : TxM} {m : StM} (h : endB t m = true) : EndOk t m := by
  unfold endB at h
  simp only [Bool.and_eq_true, Bool.or_eq_true, decide_eq_true_eq, List.all_eq_true] at h
  obtain ⟨h1, h2, h3, h4, h5, h6, h7, h8, h9, h10, h11⟩ := h
  refine ⟨stoB_ok h1, stoB_ok h2, pinB_ok h3, ⟨h4, h5⟩, fun k => ?_, h7, h8, fun hn => ?_, h10, fun hk hm => ?_⟩
  · unfold getT
    cases hl : lookK k t.got with
    | none => simp
    | some v => exact h6 _ (lookK_in hl)
  · exact adjB_ok (h9.resolve_left hn)
  · rcases h11 with h | h | h
    · exact absurd hk h
    · exact absurd hm h
    · exact h
def goB (t : TxM) (m : StM) : Bool := decide (t.r.name.length < 100) && (match t.todo with
  | [] => endB t m
  | k :: rest => decide (rest.length < 100000) && (decide ((rowK m k).length < 1000000) && decide (((readM m k t.at_).getD []).length < 1000000000)))
theorem goB_ok {t : TxM} {m : StM} (h : goB t m = true) : GoOk t m := by
  unfold goB at h
  simp only [Bool.and_eq_true, decide_eq_true_eq] at h
  refine ⟨h.1, fun k rest e => ?_, fun e => ?_⟩
  · have h := h.2
    rw [e] at h
    simpa using h
  · have h := h.2
    rw [e] at h
    exact endB_ok h
def stepB (t : TxM) (m : StM) : Bool := decide (t.r.name.length < 100) && ((decide (t.r.kind = 1) || (decide (t.r.kind = 2) || (decide (t.r.kind = 3) || decide (t.r.kind = 4)))) && (decide (-1000 < t.tries) && (decide (t.tries < 1000) && (pinB m && (t.over || (if t.trying then goB t m else goB (beginT t m) (pinM m)))))))
theorem stepB_ok {t : TxM} {m : StM} (h : stepB t m = true) : StepOk t m := by
  unfold stepB at h
  simp only [Bool.and_eq_true, Bool.or_eq_true, decide_eq_true_eq] at h
  obtain ⟨h1, h2, h3, h4, h5, h6⟩ := h
  refine ⟨h1, fun _ => h2, ⟨h3, h4⟩, pinB_ok h5, fun ho _ ht => ?_, fun ho _ ht => ?_⟩
  · rw [ho, ht] at h6
    exact goB_ok (by simpa using h6)
  · rw [ho, ht] at h6
    exact goB_ok (by simpa using h6)
def finishT : Nat → TxM → StM → TxM × StM
  | 0, t, m => (t, m)
  | n + 1, t, m => match stepT t m with
    | (some _, t', m') => (t', m')
    | (none, t', m') => finishT n t' m'
def finishB : Nat → TxM → StM → Bool
  | 0, _, _ => true
  | n + 1, t, m => stepB t m && (match stepT t m with
    | (some _, _, _) => true
    | (none, t', m') => finishB n t' m')
section
variable [Tabs]
variable {h0 h : AHeap} {M : List Nat} {L R R' : Own} {K : AV → Prop} {KH : QT} {KS' : AHeap → Prop} {Q : QT} {i : Nat} {m : StM}
theorem finish_sp (hI : IndexOk) (hS : SortOk) (hks : KVOk) {pb p : Nat} {t : TxM} {E : Own} (hb : ∃ e ∈ R, e.1 = pb) (ok : finishB 59 t m = true) (o : TxO i pb p t E) (s : StoS h0 M h i m (E ++ R))
    (q : ∀ r E' h', TxO i pb p (finishT 59 t m).1 E' → StoS h0 M h' i (finishT 59 t m).2 (E' ++ R) → Q r h') : C fn_law10_finish [.ptr p 0] h Q := by
  refine law10_finish_ok _ _ _ ?_
  unfold law10_finish
  refine st_ptrNo (st_if (fun h => by cases h) (fun _ => ?_))
  refine st_loop (fun n vs h => ∃ (t' : TxM) (m' : StM) (E : Own) (j : Nat), vs = [I 0, I (j : Nat)] ∧ n + j = 60 ∧ finishB n t' m' = true ∧ finishT n t' m' = finishT 59 t m ∧ TxO i pb p t' E ∧ StoS h0 M h i m' (E ++ R)) 59 ⟨t, m, E, 1, rfl, rfl, ok, rfl, o, s⟩ ?_
  rintro n vs h ⟨t', m', E, j, rfl, hn, ok, e, o, s⟩
  unfold law10_finish_l4
  (repeat refine st_lss ?_)
  refine st_if (fun b1 => ?_) (fun b1 => ?_) <;> simp only [za, zb, zc, zd, ze, zf, zg, zh, zi, u8i, zj, zk, zl] at b1
  · obtain ⟨n, rfl⟩ : ∃ n', n = n' + 1 := ⟨n - 1, by omega⟩
    unfold finishB at ok
    simp only [Bool.and_eq_true] at ok
    have e' : finishT (n + 1) t' m' = (match stepT t' m' with | (some _, t', m') => (t', m') | (none, t', m') => finishT n t' m') := rfl
    rw [e'] at e
    clear e'
    refine step_sp hI hS hks hb (stepB_ok ok.1) o s fun E h o s => ?_
    refine st_ext rfl (st_ext rfl ?_)
    refine so_new s fun p4 h s => ?_
    refine so_store s .head rfl rfl rfl (nle rfl) fun h s => ?_
    have s := s.sub ((List.Sublist.refl _).cons _)
    have ok2 := ok.2
    generalize stepT t' m' = z at e ok2 o s ⊢
    obtain ⟨d, t2, m2⟩ := z
    cases d with
    | some d =>
      refine st_if (fun _ => ?_) (fun h => by cases h)
      have e : (t2, m2) = finishT 59 t m := e
      rw [← e] at q
      exact q _ _ h o s
    | none =>
      refine st_if (fun h => by cases h) (fun _ => ?_)
      refine st_add (by omega) ?_
      exact ⟨n, by omega, t2, m2, E, j + 1, rfl, by omega, ok2, e, o, s⟩
  · obtain rfl : n = 0 := by omega
    have e : (t', m') = finishT 59 t m := e
    rw [← e] at q
    exact q _ _ h o s
end
end
end Go.Proofs.YtamfimhaimaeiaaGreatDoor.AL
namespace Go.Proofs.YtamfimhaimaeiaaGreatDoor.AL
noncomputable section
structure G2 where
  m : StM
  t0 : TxM
  t1 : TxM
  d0 : DoneM
  d1 : DoneM
  n : Nat
def fmS : Str := [102, 109]
section
variable [Tabs]
variable {h0 h : AHeap} {M : List Nat} {L R R' : Own} {K : AV → Prop} {KH : QT} {KS' : AHeap → Prop} {Q : QT} {i : Nat} {m : StM}
theorem st_ixA {n size p o j : Nat} (hj : j < n) (k : K (.ptr p (o + j * size))) : qIndexAddrA n size (.ptr p o) (I (j : Nat)) K := ⟨by
  simp only [pIndexAddrA, asI, Int.toNat_natCast]
  exact ⟨⟨by omega, by omega⟩, k⟩⟩
theorem st_ixF2 {a b : AV} {j : Nat} (hj : j < 2) (k : K (.cptr (if j = 0 then [a, b] else [b]))) : qIndexAddr 1 (.full 2 [a, b]) (I (j : Nat)) K := ⟨by
  simp only [pIndexAddr, asI, Int.toNat_natCast, Nat.mul_one]
  refine ⟨⟨by omega, by omega⟩, ?_⟩
  rcases (show j = 0 ∨ j = 1 by omega) with rfl | rfl <;> exact k⟩
end
end
end Go.Proofs.YtamfimhaimaeiaaGreatDoor.AL
set_option maxHeartbeats 0
namespace Go.Proofs.YtamfimhaimaeiaaGreatDoor.AL
noncomputable section
def stepU (t : TxM) (m : StM) : Option DoneM × TxM × StM :=
  if t.over = true then (none, t, m) else if t.trying = true then goT t m else goT (beginT t m) (pinM m)
theorem stepT_U {t : TxM} {m : StM} (h : rightM t.r = true) : stepT t m = stepU t m := by
  unfold stepT stepU
  split
  · rfl
  · rw [if_neg (by rw [h]; simp)]
def putA (a : Str) : TxM := ⟨⟨1, [109], a, 0⟩, 0, false, false, 0, [], []⟩
def oldM : StM := (stepU (stepU (putA [111, 108, 100]) ⟨[], 1000, 0, []⟩).2.1 (stepU (putA [111, 108, 100]) ⟨[], 1000, 0, []⟩).2.2).2.2
def stepW (g : G2) (k : Nat) : G2 :=
  if k = 0 then (match stepU g.t0 g.m with
    | (none, t', m') => { g with t0 := t', m := m' }
    | (some d, t', m') => { g with t0 := t', m := m', d0 := d, n := g.n + 1 })
  else (match stepU g.t1 g.m with
    | (none, t', m') => { g with t1 := t', m := m' }
    | (some d, t', m') => { g with t1 := t', m := m', d1 := d, n := g.n + 1 })
def startW (a b : Str) : G2 := ⟨oldM, putA a, putA b, ⟨0, [], 0, false⟩, ⟨0, [], 0, false⟩, 0⟩
def atW (a b : Str) (p : List Nat) : G2 := p.foldl stepW (startW a b)
def pathsW : List (List Nat) := [[], [0], [1], [0, 0], [1, 1], [0, 1], [0, 0, 1], [1, 1, 0], [0, 1, 0], [0, 1, 1], [0, 0, 1, 1], [1, 1, 0, 0], [0, 1, 0, 1], [0, 1, 1, 0]]
def nextW : List (Nat × Nat) := [(1, 2), (3, 5), (5, 4), (3, 6), (7, 4), (8, 9), (6, 10), (11, 7), (8, 12), (13, 9)]
def SW (a b : Str) (j : Nat) : G2 := atW a b (pathsW[j]?.getD [])
def nxW (j k : Nat) : Nat := match nextW[j]? with | some (x, y) => if k = 0 then x else y | none => 0
theorem step_SW (a b : Str) : ∀ j, j < 10 → stepW (SW a b j) 0 = SW a b (nxW j 0) ∧ stepW (SW a b j) 1 = SW a b (nxW j 1)
  | 0, _ => ⟨by kernel_rfl, by kernel_rfl⟩
  | 1, _ => ⟨by kernel_rfl, by kernel_rfl⟩
  | 2, _ => ⟨by kernel_rfl, by kernel_rfl⟩
  | 3, _ => ⟨by kernel_rfl, by kernel_rfl⟩
  | 4, _ => ⟨by kernel_rfl, by kernel_rfl⟩
  | 5, _ => ⟨by kernel_rfl, by kernel_rfl⟩
  | 6, _ => ⟨by kernel_rfl, by kernel_rfl⟩
  | 7, _ => ⟨by kernel_rfl, by kernel_rfl⟩
  | 8, _ => ⟨by kernel_rfl, by kernel_rfl⟩
  | 9, _ => ⟨by kernel_rfl, by kernel_rfl⟩
  | n + 10, h => absurd h (by omega)
def lastW : List Nat := [0, 0, 0, 0, 1, 0, 0, 1, 0, 1, 1, 0, 1, 0]
def doneW : List Nat := [0, 0, 0, 1, 1, 0, 1, 1, 1, 1, 2, 2, 2, 2]
def walkW : Nat → Nat → Nat → Bool
  | 0, _, j => decide (10 ≤ j)
  | f + 1, i, j => if 10 ≤ j then true else if i < 8 then walkW f (i + 1) (nxW j 0) && walkW f (i + 1) (nxW j 1) else walkW f (i + 1) (nxW j (i % 2))
theorem walk_all : walkW 20 0 0 = true := by kernel_rfl
end
end Go.Proofs.YtamfimhaimaeiaaGreatDoor.AL
set_option maxHeartbeats 0
namespace Go.Proofs.YtamfimhaimaeiaaGreatDoor.AL
noncomputable section
def endX (t : TxM) (m : StM) : Bool :=
  stoB m && (stoB (commitM m (writesT t).1) && (pinB m && (decide (0 ≤ m.now) && (decide (m.now < 1000000000) && (t.got.all (fun x => decide ((x.2.getD []).length < 90000)) && (decide (t.r.name.length < 100) &&
  ((decide (t.r.name ∈ namesT t [100]) || adjB (withM (namesT t [100]) t.r.name)) && (decide (AL.sumL (withM (namesT t [100]) t.r.name) < 1000000) && (decide (t.r.kind ≠ 2) || (decide (t.r.name ∉ namesT t [100]) || decide (namesT t [100] = [t.r.name])))))))))))
theorem endX_ok {t : TxM} {m : StM} (ht : t.r.text.length < 90000) (h : endX t m = true) : EndOk t m := by
  refine endB_ok ?_
  unfold endX at h
  unfold endB
  simp only [Bool.and_eq_true] at h ⊢
  obtain ⟨h1, h2, h3, h4, h5, h6, h7, h9, h10, h11⟩ := h
  exact ⟨h1, h2, h3, h4, h5, h6, h7, by simpa using ht, h9, h10, h11⟩
def goX (t : TxM) (m : StM) : Bool := decide (t.r.name.length < 100) && (match t.todo with
  | [] => endX t m
  | k :: rest => decide (rest.length < 100000) && (decide ((rowK m k).length < 1000000) && decide (((readM m k t.at_).getD []).length < 1000000000)))
theorem goX_ok {t : TxM} {m : StM} (ht : t.r.text.length < 90000) (h : goX t m = true) : GoOk t m := by
  unfold goX at h
  simp only [Bool.and_eq_true, decide_eq_true_eq] at h
  refine ⟨h.1, fun k rest e => ?_, fun e => ?_⟩
  · have h := h.2
    rw [e] at h
    simpa using h
  · have h := h.2
    rw [e] at h
    exact endX_ok ht h
def stepX (t : TxM) (m : StM) : Bool := decide (t.r.name.length < 100) && (decide (t.r.kind = 1) && (decide (-1000 < t.tries) && (decide (t.tries < 1000) && (pinB m && (t.over || (if t.trying then goX t m else goX (beginT t m) (pinM m)))))))
theorem stepX_ok {t : TxM} {m : StM} (ht : t.r.text.length < 90000) (h : stepX t m = true) : StepOk t m := by
  unfold stepX at h
  simp only [Bool.and_eq_true, Bool.or_eq_true, decide_eq_true_eq] at h
  obtain ⟨h1, h2, h3, h4, h5, h6⟩ := h
  refine ⟨h1, fun _ => .inl h2, ⟨h3, h4⟩, pinB_ok h5, fun ho _ ht' => ?_, fun ho _ ht' => ?_⟩
  · rw [ho, ht'] at h6
    exact goX_ok ht (by simpa using h6)
  · rw [ho, ht'] at h6
    exact goX_ok ht (by simpa using h6)
def resW (j k : Nat) (t : TxM) (m : StM) : Bool := stepX t m && (match stepU t m with
  | (none, t', _) => decide (doneW[nxW j k]? = doneW[j]?) && (decide (10 ≤ nxW j k) == false)
  | (some d, t', _) => decide (d.e = 0) && (d.wrote && (decide (t'.tries = 1) && (decide (doneW[nxW j k]? = (doneW[j]?).map (· + 1)) && decide (lastW[nxW j k]? = some k)))))
theorem res_SW (a b : Str) : ∀ j, j < 10 → resW j 0 (SW a b j).t0 (SW a b j).m = true ∧ resW j 1 (SW a b j).t1 (SW a b j).m = true
  | 0, _ => ⟨by kernel_rfl, by kernel_rfl⟩
  | 1, _ => ⟨by kernel_rfl, by kernel_rfl⟩
  | 2, _ => ⟨by kernel_rfl, by kernel_rfl⟩
  | 3, _ => ⟨by kernel_rfl, by kernel_rfl⟩
  | 4, _ => ⟨by kernel_rfl, by kernel_rfl⟩
  | 5, _ => ⟨by kernel_rfl, by kernel_rfl⟩
  | 6, _ => ⟨by kernel_rfl, by kernel_rfl⟩
  | 7, _ => ⟨by kernel_rfl, by kernel_rfl⟩
  | 8, _ => ⟨by kernel_rfl, by kernel_rfl⟩
  | 9, _ => ⟨by kernel_rfl, by kernel_rfl⟩
  | n + 10, h => absurd h (by omega)
theorem end_SW (a b : Str) : ∀ j, 10 ≤ j → j < 14 → readM (SW a b j).m fmS (SW a b j).m.now = some (if lastW[j]? = some 0 then a else b)
  | 10, _, _ => by kernel_rfl
  | 11, _, _ => by kernel_rfl
  | 12, _, _ => by kernel_rfl
  | 13, _, _ => by kernel_rfl
  | n + 14, _, h => absurd h (by omega)
end
end Go.Proofs.YtamfimhaimaeiaaGreatDoor.AL
