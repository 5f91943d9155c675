/- Contract of the draw of one point. -/
import Derived.Test.YtmnpengjklghlaaDrawPt
namespace Go.Proofs.Ytmnpengjklghlaa
open Go.ChangeShapes Go.WideShapes Go.ChangeAt Go.RowKit
set_option linter.unusedVariables false
theorem Slot.old {w w' : World} {k : Nat} {x y : Int} (h : Slot w k x y) (hb : Below w.heap.size w w') : Slot w' k x y := h.below hb h.2.2.2.2
/-- the outcome of a whole draw: some result, nothing old has turned -/
def Got (w : World) (Q : Ending → Prop) (e : Ending) (w' : World) : Prop := Q e ∧ Below w.heap.size w w'
theorem got {w w1 w2 : World} {R : Nat} (hR : w.heap.size ≤ R) (b1 : Below w.heap.size w w1) (b2 : Beside R w1 w2) : Below w.heap.size w w2 := b1.trans (b2.below hR b1.size)
theorem IsRow.alloc {k : IntKind} {w : World} {a : Option Addr} {len cap : Nat} {zs : List Int} (h : IsRow k w a len cap zs) (o : Obj) : IsRow k (w.alloc o) a len cap zs := h.below ((Below.refl _ _).alloc (Nat.le_refl _) o)
end Go.Proofs.Ytmnpengjklghlaa
