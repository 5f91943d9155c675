/- Contract of the reader's odd. -/
import Derived.Test.YtmainffjekjlnaaDoorDeg
namespace Go.Proofs.YtmainffjekjlnaaDoor
open Go.ChangeShapes Go.WideShapes Go.ChangeAt Go.RowKit
set_option linter.unusedVariables false
def ABool (e : Ending) : Prop := ∃ b : Bool, e = .returned (.bool b)
theorem odd_any (R m : Nat) (n : Int) (w : World) (h : Rd w R m) (hm : m ≤ 999990) (hn : 1 ≤ n) (hn2 : n ≤ 1000000) :
    Calls Tryd.prog 33 #[.pointer (some ⟨R, 0, none⟩), .int .i64 n] w (Drew w R (m + 1) ABool) := by
  go_enter Tryd.func33, Tryd.ntmps33
  go_wp2_with fail
  refine (pick_any R m _ _ h (by omega) hn hn2).mono ?_
  rintro e w1 ⟨v1, p1, p2, rfl, r1, b1⟩
  go_wp2_with fail
  all_goals
    go_ret
    exact ⟨⟨_, rfl⟩, r1, b1⟩
end Go.Proofs.YtmainffjekjlnaaDoor
