import Derived.Test.YtlikeadfohahdaaGreatDoorMP1toAI2
set_option linter.all false
set_option autoImplicit true
set_option relaxedAutoImplicit true
set_option maxRecDepth 100000
namespace Go.Proofs.YtlikeadfohahdaaGreatDoor.AL
noncomputable section
variable [Tabs]
abbrev U32 (n : Int) : AV := .lit (.int .u32 n)
def PutK (m : Option Int) (h : AHeap) (Q : QT) : Prop := ∀ b h', Fr [] h h' → (∀ n, m = some n → b = n) → Q (.tup [U32 b, B m.isSome]) h'
theorem PutK.none {h h' : AHeap} {Q : QT} {m : Option Int} (k : PutK m h Q) (f : Fr [] h h') (b : Int) (e : m = .none) : Q (.tup [U32 b, B false]) h' := by
  subst e; exact k b h' f (fun n h => by cases h)
theorem PutK.some {h h' : AHeap} {Q : QT} {m : Option Int} (k : PutK m h Q) (f : Fr [] h h') {b : Int} (e : m = .some b) : Q (.tup [U32 b, B true]) h' := by
  subst e; exact k b h' f (fun n h => by cases h; rfl)
theorem PutK.is {h h' : AHeap} {Q : QT} {m : Option Int} (k : PutK m h Q) (f : Fr [] h h') {b : Int} {p : Bool} (e : m = if p = true then .some b else .none) : Q (.tup [U32 b, B p]) h' := by
  cases p with
  | true => exact k.some f (by simpa using e)
  | false => exact k.none f b (by simpa using e)
end
end Go.Proofs.YtlikeadfohahdaaGreatDoor.AL
