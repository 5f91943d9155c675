/- Contract of the laws' helper alive: it returns true. -/
import Derived.Test.YtegmhflbndnadaaDoorRead
namespace Go.Proofs.YtegmhflbndnadaaDoor
open Go.ChangeShapes Go.WideShapes Go.ChangeAt Go.RowKit
set_option linter.unusedVariables false
theorem alive (w : World) : Calls Tryd.prog 19 #[] w fun e w' => e = .returned (.bool true) ∧ w = w' := by
  go_enter Tryd.func19, Tryd.ntmps19
  go_wp2
  go_ret
  exact ⟨rfl, rfl⟩
end Go.Proofs.YtegmhflbndnadaaDoor
