/- Contract of the laws' helper alive: it returns true. -/
import Derived.Test.YtidjmccehemclaaRead
namespace Go.Proofs.Ytidjmccehemclaa
open Go.ChangeShapes Go.WideShapes Go.ChangeAt Go.RowKit
set_option linter.unusedVariables false
theorem alive (w : World) : Calls Try.prog 20 #[] w fun e w' => e = .returned (.bool true) ∧ w = w' := by
  go_enter Try.func20, Try.ntmps20
  go_wp2
  go_ret
  exact ⟨rfl, rfl⟩
end Go.Proofs.Ytidjmccehemclaa
