import Derived.Calls
import Derived.Orders
import Derived.Laws.Sem
set_option linter.all false
set_option autoImplicit true
set_option relaxedAutoImplicit true
/-! The abstract layer: values, heaps, what they stand for. -/
namespace Go.Proofs.YtmocchnodigmlaaGreatDoor.AL

/-- A value as the layer has it. -/
inductive AV where
  | lit (v : Value)
  | ptr (i off : Nat)
  | cptr (cs : List AV)
  | sl (i off len sz : Nat)
  | snap (n : Nat) (cs : List AV)
  | full (n : Nat) (cs : List AV)
  | map (i : Nat)
  | fn (f : Fn) (first captured : List AV)
  | iface (t : TypeId) (v : AV)
  | agg (cs : List AV)
  | tup (vs : List AV)
  | sym (j : Nat)
  deriving Inhabited

def AV.cells : AV → List AV
  | .agg cs => cs
  | v => [v]

/-- An object in memory. -/
inductive AObj where
  | cells (cs : List AV)
  | amap (es : List (Value × Nat × AV)) (clock : Nat)
  | siter (s : ByteArray) (pos : Nat)
  | miter (m : Option Nat) (since : Nat) (seen : List Nat) (last : Nat)
  | keys (m : Nat)
  | dead
  deriving Inhabited

def AObj.live : AObj → Bool
  | .dead => false
  | _ => true

abbrev AHeap := List AObj

/-- Where objects lie; what is known not to change any more. -/
structure Gh where
  loc : Nat → Option (Nat × Nat)
  cap : Nat → Nat
  F : Nat → Nat → Option Value

/-- Values that have names. -/
class Syms where
  sy : Nat → Value
  one : ∀ j, (sy j).oneCell' = true
section
variable [Syms]
mutual
def Rep (G : Gh) : AV → Value → Prop
  | .lit v, x => x = v ∧ v.oneCell' = true
  | .ptr i off, x => ∃ b o, G.loc i = some (b, o) ∧ x = .pointer (some ⟨b, o + off, none⟩)
  | .cptr cs, x => ∃ b o, x = .pointer (some ⟨b, o, none⟩) ∧ RepAt G cs b o
  | .sl i off len sz, x => ∃ b o c ad, G.loc i = some (b, o) ∧ off + c * sz ≤ G.cap i ∧ len ≤ c ∧ (0 < c → ad = o + off) ∧ x = .slice (some ⟨b, ad, none⟩) len c
  | .snap n cs, x => (n = 0 ∧ cs = [] ∧ x = .slice none 0 0) ∨ ∃ b o c, n ≤ c ∧ x = .slice (some ⟨b, o, none⟩) n c ∧ RepAt G cs b o
  | .full n cs, x => (n = 0 ∧ cs = [] ∧ x = .slice none 0 0) ∨ ∃ b o, x = .slice (some ⟨b, o, none⟩) n n ∧ RepAt G cs b o
  | .map i, x => ∃ b, G.loc i = some (b, 0) ∧ x = .map (some b)
  | .fn f fi ca, x => ∃ vs ws, x = .func f (List.toArray vs) (List.toArray ws) ∧ RepL G fi vs ∧ RepL G ca ws
  | .iface t v, x => ∃ y, x = .iface t y ∧ Rep G v y
  | .agg cs, x => ∃ vs, x = .agg (List.toArray vs) ∧ RepL G cs vs
  | .tup ts, x => ∃ vs, x = .tuple (List.toArray vs) ∧ RepL G ts vs
  | .sym j, x => x = Syms.sy j
def RepL (G : Gh) : List AV → List Value → Prop
  | [], vs => vs = []
  | a :: as, vs => ∃ v ws, vs = v :: ws ∧ Rep G a v ∧ RepL G as ws
def RepAt (G : Gh) : List AV → Nat → Nat → Prop
  | [], _, _ => True
  | a :: as, b, o => (∃ v, G.F b o = some v ∧ Rep G a v) ∧ RepAt G as b (o + 1)
end

structure Gh.le (G G' : Gh) : Prop where
  loc : ∀ i p, G.loc i = some p → G'.loc i = some p
  cap : ∀ i p, G.loc i = some p → G'.cap i = G.cap i
  F : ∀ b o v, G.F b o = some v → G'.F b o = some v

theorem Gh.le.refl (G : Gh) : G.le G := ⟨fun _ _ h => h, fun _ _ _ => rfl, fun _ _ _ h => h⟩
theorem Gh.le.trans {A B C : Gh} (h : A.le B) (k : B.le C) : A.le C :=
  ⟨fun i p e => k.loc i p (h.loc i p e), fun i p e => (k.cap i p (h.loc i p e)).trans (h.cap i p e), fun b o v e => k.F b o v (h.F b o v e)⟩

mutual
theorem Rep.mono {G G' : Gh} (le : G.le G') : ∀ (a : AV) (x : Value), Rep G a x → Rep G' a x
  | .lit v, x, h => by simpa [Rep] using h
  | .ptr i off, x, h => by
    simp only [Rep] at h ⊢
    obtain ⟨b, o, h1, h2⟩ := h
    exact ⟨b, o, le.loc _ _ h1, h2⟩
  | .cptr cs, x, h => by
    simp only [Rep] at h ⊢
    obtain ⟨b, o, h1, h2⟩ := h
    exact ⟨b, o, h1, RepAt.mono le cs b o h2⟩
  | .sl i off len sz, x, h => by
    simp only [Rep] at h ⊢
    obtain ⟨b, o, c, ad, h1, h2, h3, h4⟩ := h
    exact ⟨b, o, c, ad, le.loc _ _ h1, by rw [le.cap _ _ h1]; exact h2, h3, h4⟩
  | .snap n cs, x, h => by
    simp only [Rep] at h ⊢
    rcases h with h | ⟨b, o, c, h1, h2, h3⟩
    · exact .inl h
    · exact .inr ⟨b, o, c, h1, h2, RepAt.mono le cs b o h3⟩
  | .full n cs, x, h => by
    simp only [Rep] at h ⊢
    rcases h with h | ⟨b, o, h2, h3⟩
    · exact .inl h
    · exact .inr ⟨b, o, h2, RepAt.mono le cs b o h3⟩
  | .map i, x, h => by
    simp only [Rep] at h ⊢
    obtain ⟨b, h1, h2⟩ := h
    exact ⟨b, le.loc _ _ h1, h2⟩
  | .fn f fi ca, x, h => by
    simp only [Rep] at h ⊢
    obtain ⟨vs, ws, h1, h2, h3⟩ := h
    exact ⟨vs, ws, h1, RepL.mono le fi vs h2, RepL.mono le ca ws h3⟩
  | .iface t v, x, h => by
    simp only [Rep] at h ⊢
    obtain ⟨y, h1, h2⟩ := h
    exact ⟨y, h1, Rep.mono le v y h2⟩
  | .agg cs, x, h => by
    simp only [Rep] at h ⊢
    obtain ⟨vs, h1, h2⟩ := h
    exact ⟨vs, h1, RepL.mono le cs vs h2⟩
  | .tup cs, x, h => by
    simp only [Rep] at h ⊢
    obtain ⟨vs, h1, h2⟩ := h
    exact ⟨vs, h1, RepL.mono le cs vs h2⟩
  | .sym j, x, h => by simpa [Rep] using h
theorem RepL.mono {G G' : Gh} (le : G.le G') : ∀ (as : List AV) (vs : List Value), RepL G as vs → RepL G' as vs
  | [], vs, h => by simpa [RepL] using h
  | a :: as, vs, h => by
    simp only [RepL] at h ⊢
    obtain ⟨v, ws, h1, h2, h3⟩ := h
    exact ⟨v, ws, h1, Rep.mono le a v h2, RepL.mono le as ws h3⟩
theorem RepAt.mono {G G' : Gh} (le : G.le G') : ∀ (as : List AV) (b o : Nat), RepAt G as b o → RepAt G' as b o
  | [], b, o, _ => by simp [RepAt]
  | a :: as, b, o, h => by
    simp only [RepAt] at h ⊢
    obtain ⟨⟨v, h1, h2⟩, h3⟩ := h
    exact ⟨⟨v, le.F _ _ _ h1, Rep.mono le a v h2⟩, RepAt.mono le as b (o + 1) h3⟩
end

/-! ### Memory -/
/-- A map's entries: key, number, value. -/
def RepE (G : Gh) : List (Value × Nat × AV) → List MapEntry → Prop
  | [], l => l = []
  | (k, n, a) :: es, l => ∃ e r, l = e :: r ∧ e.key = k ∧ e.born = n ∧ Rep G a e.val ∧ RepE G es r
theorem RepE.mono {G G' : Gh} (le : G.le G') : ∀ (es : List (Value × Nat × AV)) (l : List MapEntry), RepE G es l → RepE G' es l
  | [], l, h => h
  | (k, n, a) :: es, l, h => by
    simp only [RepE] at h ⊢
    obtain ⟨e, r, h1, h2, h3, h4, h5⟩ := h
    exact ⟨e, r, h1, h2, h3, Rep.mono le a _ h4, RepE.mono le es r h5⟩
theorem RepE.length {G : Gh} : ∀ {es : List (Value × Nat × AV)} {l : List MapEntry}, RepE G es l → l.length = es.length
  | [], l, h => by simp only [RepE] at h; simp [h]
  | (k, n, a) :: es, l, h => by
    simp only [RepE] at h
    obtain ⟨e, r, rfl, _, _, _, h5⟩ := h
    simp [RepE.length h5]
def ObjAt (G : Gh) (w : World) (i : Nat) : AObj → Prop
  | .cells cs => ∃ b o arr el lo hi, G.loc i = some (b, o) ∧ w.heap[b]? = some (.cells arr el (lo, hi)) ∧ (∀ k, k < arr.size → ¬(lo ≤ k ∧ k < hi)) ∧
      cs.length ≤ G.cap i ∧ o + G.cap i ≤ arr.size ∧ ∀ j a, cs[j]? = some a → ∃ v, arr[o + j]? = some v ∧ Rep G a v
  | .amap es clock => ∃ b arr, G.loc i = some (b, 0) ∧ w.heap[b]? = some (.map arr clock) ∧ RepE G es arr.toList
  | .siter s pos => ∃ b, G.loc i = some (b, 0) ∧ w.heap[b]? = some (.stringIter s pos)
  | .miter m since seen last => ∃ b mb, G.loc i = some (b, 0) ∧ w.heap[b]? = some (.mapIter mb since seen.toArray last) ∧ (match m with | none => mb = none | some j => ∃ q, G.loc j = some (q, 0) ∧ mb = some q)
  | .keys m => ∃ b el q, G.loc i = some (b, 0) ∧ w.heap[b]? = some (.cells #[.map (some q)] el (0, 0)) ∧ G.loc m = some (q, 0)
  | .dead => True

end
/-- What is known, all along, of the program's tables. -/
class Tabs extends Syms where
  ok : (Nat → Nat → Option Value) → Prop
  mono : ∀ {F F' : Nat → Nat → Option Value}, (∀ b o v, F b o = some v → F' b o = some v) → ok F → ok F'
  tab : Nat → Option (List AV)
  tab_ok : ∀ (G : Gh) (g : Nat) (cs : List AV), ok G.F → tab g = some cs → RepAt G cs g 0
variable [Tabs]

structure Sim (G : Gh) (h : AHeap) (w : World) : Prop where
  obj : ∀ i o, h[i]? = some o → ObjAt G w i o
  dom : ∀ i p, G.loc i = some p → i < h.length
  apart : ∀ i j oi oj p q, h[i]? = some oi → h[j]? = some oj → oi.live = true → oj.live = true → G.loc i = some p → G.loc j = some q → p.1 = q.1 → i = j
  frz : ∀ b o v, G.F b o = some v → w.cell? ⟨b, o, none⟩ = some v
  sep : ∀ i o p, h[i]? = some o → o.live = true → G.loc i = some p → ∀ off, G.F p.1 off = none
  tab : Tabs.ok G.F

def Owned (G : Gh) (h : AHeap) (b : Nat) : Prop := ∃ i o p, h[i]? = some o ∧ o.live = true ∧ G.loc i = some p ∧ p.1 = b

structure Evo (G : Gh) (h : AHeap) (w : World) (G' : Gh) (h' : AHeap) (w' : World) : Prop where
  le : G.le G'
  size : w.heap.size ≤ w'.heap.size
  os : w'.os = w.os
  tape : w'.tape = w.tape
  output : w'.output = w.output
  frame : ∀ b, b < w.heap.size → ¬ Owned G h b → w'.heap[b]? = w.heap[b]?
  own : ∀ b, Owned G' h' b → Owned G h b ∨ w.heap.size ≤ b

theorem Evo.refl (G : Gh) (h : AHeap) (w : World) : Evo G h w G h w :=
  ⟨Gh.le.refl G, Nat.le_refl _, rfl, rfl, rfl, fun _ _ _ => rfl, fun _ h => .inl h⟩

theorem Evo.trans {G G1 G2 : Gh} {h h1 h2 : AHeap} {w w1 w2 : World} (a : Evo G h w G1 h1 w1) (b : Evo G1 h1 w1 G2 h2 w2) : Evo G h w G2 h2 w2 where
  le := a.le.trans b.le
  size := Nat.le_trans a.size b.size
  os := b.os.trans a.os
  tape := b.tape.trans a.tape
  output := b.output.trans a.output
  frame := fun k hk hn => by
    rw [b.frame k (Nat.lt_of_lt_of_le hk a.size) (fun ho => ?_), a.frame k hk hn]
    rcases a.own k ho with h | h
    · exact hn h
    · omega
  own := fun k ho => by
    rcases b.own k ho with h | h
    · exact a.own k h
    · exact .inr (Nat.le_trans a.size h)

theorem Sim.owned_lt {G : Gh} {h : AHeap} {w : World} (s : Sim G h w) {b : Nat} (ho : Owned G h b) : b < w.heap.size := by
  obtain ⟨i, o, p, h1, h2, h3, rfl⟩ := ho
  have := s.obj i o h1
  cases o with
  | cells cs =>
    obtain ⟨b, o, arr, el, lo, hi, e1, e2, _⟩ := this
    rw [h3] at e1; cases e1
    exact (Array.getElem?_eq_some_iff.1 e2).1
  | amap es clock =>
    obtain ⟨b, arr, e1, e2, _⟩ := this
    rw [h3] at e1; cases e1
    exact (Array.getElem?_eq_some_iff.1 e2).1
  | miter m since seen last =>
    obtain ⟨b, mb, e1, e2, _⟩ := this
    rw [h3] at e1; cases e1
    exact (Array.getElem?_eq_some_iff.1 e2).1
  | siter s pos =>
    obtain ⟨b, e1, e2⟩ := this
    rw [h3] at e1; cases e1
    exact (Array.getElem?_eq_some_iff.1 e2).1
  | keys m =>
    obtain ⟨b, el, q, e1, e2, e3⟩ := this
    rw [h3] at e1; cases e1
    exact (Array.getElem?_eq_some_iff.1 e2).1
  | dead => simp [AObj.live] at h2

/-! ### Calls -/
def ACalls (P : Program) (f : FuncId) (args : List AV) (h : AHeap) (Q : AV → AHeap → Prop) : Prop :=
  ∀ (G : Gh) (w : World) (vs : List Value), Sim G h w → RepL G args vs →
    Calls P f vs.toArray w fun e w' => ∃ r v h' G', e = .returned v ∧ Rep G' r v ∧ Q r h' ∧ Sim G' h' w' ∧ Evo G h w G' h' w'

theorem ACalls.mono {P : Program} {f : FuncId} {args : List AV} {h : AHeap} {Q Q' : AV → AHeap → Prop} (c : ACalls P f args h Q) (hq : ∀ r h', Q r h' → Q' r h') : ACalls P f args h Q' :=
  fun G w vs s r => (c G w vs s r).mono fun _ _ ⟨r, v, h', G', a, b, c, d, e⟩ => ⟨r, v, h', G', a, b, hq _ _ c, d, e⟩

/-! ### Slots -/
abbrev Env := List (Nat × AV)
def get : Env → Nat → Option AV
  | [], _ => none
  | (k, v) :: e, n => if k = n then some v else get e n
def EnvRep (G : Gh) (env : Env) (tmps : Array Value) : Prop := ∀ k a, get env k = some a → ∃ v, tmps[k]? = some v ∧ Rep G a v

theorem EnvRep.mono {G G' : Gh} (le : G.le G') {env : Env} {tmps : Array Value} (h : EnvRep G env tmps) : EnvRep G' env tmps :=
  fun k a e => let ⟨v, h1, h2⟩ := h k a e; ⟨v, h1, Rep.mono le a v h2⟩

theorem EnvRep.put {G : Gh} {env : Env} {tmps : Array Value} (h : EnvRep G env tmps) {d : Nat} (hd : d < tmps.size) {a : AV} {v : Value} (r : Rep G a v) : EnvRep G ((d, a) :: env) (tmps.setIfInBounds d v) := by
  intro k b e
  simp only [get] at e
  split at e
  · rename_i hk
    subst hk
    cases e
    exact ⟨v, by simp [hd], r⟩
  · rename_i hk
    obtain ⟨u, h1, h2⟩ := h k b e
    exact ⟨u, by rw [Array.getElem?_setIfInBounds_ne hk]; exact h1, h2⟩

def Post (G : Gh) (h : AHeap) (w : World) (n : Nat) (D : List Deferred) (K : Exit → Env → AHeap → Prop) : Exit → Act → World → Prop :=
  fun e a w' => ∃ env' h' G', K e env' h' ∧ Sim G' h' w' ∧ Evo G h w G' h' w' ∧ EnvRep G' env' a.tmps ∧ a.tmps.size = n ∧ a.defers = D

theorem Post.step {G G1 : Gh} {h h1 : AHeap} {w w1 : World} {n : Nat} {D : List Deferred} {K : Exit → Env → AHeap → Prop} (ev : Evo G h w G1 h1 w1) {e : Exit} {a : Act} {w' : World}
    (p : Post G1 h1 w1 n D K e a w') : Post G h w n D K e a w' :=
  let ⟨env', h', G', a, b, c, d⟩ := p; ⟨env', h', G', a, b, ev.trans c, d⟩

theorem Post.mono {G : Gh} {h : AHeap} {w : World} {n : Nat} {D : List Deferred} {K K' : Exit → Env → AHeap → Prop} (hk : ∀ e env h, K e env h → K' e env h) {e : Exit} {a : Act} {w' : World}
    (p : Post G h w n D K e a w') : Post G h w n D K' e a w' :=
  let ⟨env', h', G', a, b⟩ := p; ⟨env', h', G', hk _ _ _ a, b⟩

def AWp (P : Program) (n : Nat) (c : Code) (env : Env) (h : AHeap) (K : Exit → Env → AHeap → Prop) : Prop :=
  ∀ (G : Gh) (w : World) (a : Act), Sim G h w → a.tmps.size = n → EnvRep G env a.tmps → c.wp P (Post G h w n a.defers K) a w

section
variable {P : Program} {n : Nat} {env : Env} {h : AHeap} {K : Exit → Env → AHeap → Prop}

theorem AWp.mono {c : Code} {K' : Exit → Env → AHeap → Prop} (x : AWp P n c env h K) (hk : ∀ e env h, K e env h → K' e env h) : AWp P n c env h K' :=
  fun G w a s hn r => Go.wp_mono (x G w a s hn r) fun _ _ _ p => p.mono hk

theorem awp_skip (k : K .normal env h) : AWp P n .skip env h K := fun G _ _ s hn r => wp_skip ⟨env, h, G, k, s, Evo.refl _ _ _, r, hn, rfl⟩
theorem awp_ret (k : K .ret env h) : AWp P n .ret env h K := fun G _ _ s hn r => wp_ret ⟨env, h, G, k, s, Evo.refl _ _ _, r, hn, rfl⟩
theorem awp_exit {id : Nat} (k : K (.exit id) env h) : AWp P n (.exit id) env h K := fun G _ _ s hn r => wp_exit ⟨env, h, G, k, s, Evo.refl _ _ _, r, hn, rfl⟩
theorem awp_goto {l : Nat} (k : K (.goto l) env h) : AWp P n (.goto l) env h K := fun G _ _ s hn r => wp_goto ⟨env, h, G, k, s, Evo.refl _ _ _, r, hn, rfl⟩
theorem awp_label {l : Nat} (k : K .normal env h) : AWp P n (.label l) env h K := fun G _ _ s hn r => wp_label ⟨env, h, G, k, s, Evo.refl _ _ _, r, hn, rfl⟩

theorem awp_seq {x y : Code} (k : AWp P n x env h fun e env' h' => match e with | .normal => AWp P n y env' h' K | e => K e env' h') : AWp P n (.seq x y) env h K := by
  intro G w a s hn r
  refine wp_seq (Go.wp_mono (k G w a s hn r) fun e a' w' p => ?_)
  obtain ⟨env', h', G', hk, s', ev, r', hn', hd'⟩ := p
  cases e with
  | normal => exact Go.wp_mono (hk G' w' a' s' hn' r') fun e a2 w2 p2 => by rw [hd'] at p2; exact p2.step ev
  | _ => exact ⟨env', h', G', hk, s', ev, r', hn', hd'⟩

theorem awp_block {id : Nat} {c : Code} (k : AWp P n c env h fun e env' h' => match e with | .exit i => if i = id then K .normal env' h' else K (.exit i) env' h' | e => K e env' h') : AWp P n (.block id c) env h K := by
  intro G w a s hn r
  refine wp_block (Go.wp_mono (k G w a s hn r) fun e a' w' p => ?_)
  obtain ⟨env', h', G', hk, s', ev, r', hn', hd'⟩ := p
  cases e with
  | exit i =>
    simp only [Exit.inBlock]
    by_cases hi : i = id
    · simp only [hi, if_true] at hk ⊢; exact ⟨env', h', G', hk, s', ev, r', hn', hd'⟩
    · simp only [hi, if_false] at hk ⊢; exact ⟨env', h', G', hk, s', ev, r', hn', hd'⟩
  | _ => exact ⟨env', h', G', hk, s', ev, r', hn', hd'⟩

noncomputable def leastN (p : Nat → Prop) : Nat := Classical.epsilon fun k => p k ∧ ∀ m, p m → k ≤ m
theorem leastN_ex {p : Nat → Prop} (h : ∃ k, p k) : ∃ k, p k ∧ ∀ m, p m → k ≤ m := by
  obtain ⟨k, hk⟩ := h
  induction k using Nat.strongRecOn with
  | _ k ih =>
    by_cases hm : ∃ m, m < k ∧ p m
    · obtain ⟨m, hlt, hpm⟩ := hm
      exact ih m hlt hpm
    · exact ⟨k, hk, fun m hpm => Nat.le_of_not_lt fun hlt => hm ⟨m, hlt, hpm⟩⟩
theorem leastN_spec {p : Nat → Prop} (h : ∃ k, p k) : p (leastN p) := (Classical.epsilon_spec (leastN_ex h)).1
theorem leastN_le {p : Nat → Prop} {m : Nat} (h : p m) : leastN p ≤ m := (Classical.epsilon_spec (leastN_ex ⟨m, h⟩)).2 m h

/-- A loop: J tells of each round's beginning; its number goes down. -/
theorem awp_loop {c : Code} (J : Nat → Env → AHeap → Prop) (k0 : ∃ k, J k env h)
    (round : ∀ k env h, J k env h → AWp P n c env h fun e env' h' => match e with | .normal => ∃ m env2, m < k ∧ J m env2 h' ∧ (∀ s a, get env2 s = some a → get env' s = some a) | e => K e env' h') : AWp P n (.loop c) env h K := by
  intro G w a s hn r
  have R0 : ∃ k, ∃ env' h' G', J k env' h' ∧ Sim G' h' w ∧ Evo G h w G' h' w ∧ EnvRep G' env' a.tmps ∧ a.tmps.size = n ∧ a.defers = a.defers :=
    k0.imp fun k hk => ⟨env, h, G, hk, s, Evo.refl _ _ _, r, hn, rfl⟩
  let R : Nat → Act → World → Prop := fun k a' w' => ∃ env' h' G', J k env' h' ∧ Sim G' h' w' ∧ Evo G h w G' h' w' ∧ EnvRep G' env' a'.tmps ∧ a'.tmps.size = n ∧ a'.defers = a.defers
  refine wp_loop (fun a' w' => ∃ k, R k a' w') (fun a' w' => leastN (fun k => R k a' w')) R0 ?_
  intro a1 w1 hI
  obtain ⟨env1, h1, G1, hJ, s1, ev1, r1, hn1, hd1⟩ := leastN_spec hI
  refine Go.wp_mono (round _ _ _ hJ G1 w1 a1 s1 hn1 r1) fun e a2 w2 p => ?_
  obtain ⟨env2, h2, G2, hk, s2, ev2, r2, hn2, hd2⟩ := p
  cases e with
  | normal =>
    obtain ⟨m, env3, hm, hJ3, hsub⟩ := hk
    have hR : R m a2 w2 := ⟨env3, h2, G2, hJ3, s2, ev1.trans ev2, fun s a e => r2 s a (hsub s a e), hn2, hd2.trans hd1⟩
    exact ⟨⟨m, hR⟩, Nat.lt_of_le_of_lt (leastN_le hR) hm⟩
  | _ => exact ⟨env2, h2, G2, hk, s2, ev1.trans ev2, r2, hn2, hd2.trans hd1⟩
end
end Go.Proofs.YtmocchnodigmlaaGreatDoor.AL
