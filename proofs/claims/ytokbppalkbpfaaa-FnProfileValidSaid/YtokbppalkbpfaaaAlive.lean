/- Contract of the laws' helper alive: it returns true. -/
import Derived.Test.YtokbppalkbpfaaaRead
namespace Go.Proofs.Ytokbppalkbpfaaa
open Go.ChangeShapes Go.WideShapes Go.ChangeAt Go.RowKit
set_option linter.unusedVariables false
theorem alive (w : World) : Calls Try.prog 23 #[] w fun e w' => e = .returned (.bool true) ∧ w = w' := by
  go_enter Try.func23, Try.ntmps23
  go_wp2
  go_ret
  exact ⟨rfl, rfl⟩
end Go.Proofs.Ytokbppalkbpfaaa
