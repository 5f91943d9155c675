/- Contracts of the cosine, in both packages. -/
import Derived.Test.YtmainffjekjlnaaDoorTable
namespace Go.Proofs.YtmainffjekjlnaaDoor
open Go.ChangeShapes Go.WideShapes Go.ChangeAt Go.RowKit
set_option linter.unusedVariables false
theorem Tables.lt {w : World} (h : Tables w) : 2 < w.heap.size := World.block_lt_of_cell? _ _ h.2.1
theorem Tables.later {w w' : World} (h : Tables w) (hb : Below w.heap.size w w') : Tables w' := h.below hb h.lt
theorem bel_tr {w a b : World} (h : Below w.heap.size w a) (k : Below a.heap.size a b) : Below w.heap.size w b := h.trans (k.mono h.size)
def M.cosine (d : Int) : Int := M.sine (d % 360 + 90)
theorem spec_cosine (d : Int) (w : World) :
    Calls Tryd.prog 66 #[.int .i64 d] w fun e w' => e = .returned (.int .i64 (M.cosine d)) ∧ Below w.heap.size w w' := by
  go_enter Tryd.func66, Tryd.ntmps66
  go_wp2_with fail
  refine (spec_deg _ _).mono ?_
  rintro e w' ⟨rfl, rfl⟩
  have h1 : 0 ≤ d % 360 := by omega
  have h2 : d % 360 < 360 := by omega
  go_wp2_with fail
  refine (spec_sine _ _).mono ?_
  rintro e w' ⟨rfl, hb⟩
  go_wp2_with fail
  go_ret
  exact ⟨rfl, hb⟩
theorem impl_cosine (d : Int) (w : World) (hT : Tables w) :
    Calls Tryd.prog 77 #[.int .i64 d] w fun e w' => e = .returned (.int .i64 (M.cosine d)) ∧ w = w' := by
  replace hT := Lib.hid hT
  go_enter Tryd.func77, Tryd.ntmps77
  go_wp2_with fail
  refine (impl_deg _ _).mono ?_
  rintro e w' ⟨rfl, rfl⟩
  have h1 : 0 ≤ d % 360 := by omega
  have h2 : d % 360 < 360 := by omega
  go_wp2_with fail
  refine (impl_sine _ _ hT.out).mono ?_
  rintro e w' ⟨rfl, rfl⟩
  go_wp2_with fail
  go_ret
  exact ⟨rfl, rfl⟩
end Go.Proofs.YtmainffjekjlnaaDoor
