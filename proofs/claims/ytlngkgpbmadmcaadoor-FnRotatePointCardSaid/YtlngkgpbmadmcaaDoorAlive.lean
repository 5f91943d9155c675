/- Contract of the laws' helper alive: it returns true. -/
import Derived.Test.YtlngkgpbmadmcaaDoorRead
namespace Go.Proofs.YtlngkgpbmadmcaaDoor
open Go.ChangeShapes Go.WideShapes Go.ChangeAt Go.RowKit
set_option linter.unusedVariables false
theorem alive (w : World) : Calls Tryd.prog 25 #[] w fun e w' => e = .returned (.bool true) ∧ w = w' := by
  go_enter Tryd.func25, Tryd.ntmps25
  go_wp2
  go_ret
  exact ⟨rfl, rfl⟩
end Go.Proofs.YtlngkgpbmadmcaaDoor
