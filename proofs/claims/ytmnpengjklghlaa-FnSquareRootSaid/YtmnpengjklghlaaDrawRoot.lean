/- Contract of the draw of a number. -/
import Derived.Test.YtmnpengjklghlaaDeg
namespace Go.Proofs.Ytmnpengjklghlaa
open Go.ChangeShapes Go.WideShapes Go.ChangeAt Go.RowKit
set_option linter.unusedVariables false
def GotInt (w : World) (e : Ending) (w' : World) : Prop := ∃ n : Int, e = .returned (.int .i64 n) ∧ Below w.heap.size w w'
theorem draw_root (a : Option Addr) (len cap : Nat) (zs : List Int) (w : World) (h : IsRow .u8 w a len cap zs) :
    Calls Try.prog 18 #[.slice a len cap] w (GotInt w) := by
  go_enter Try.func18, Try.ntmps18
  go_wp2_with fail
  refine (open_any a len cap zs _ h).mono ?_
  rintro e w1 ⟨R, rfl, hR, r1, b1⟩
  go_wp2_with fail
  refine (pick_any R _ _ _ r1 (by omega) (by omega) (by omega)).mono ?_
  rintro e wa ⟨k, pa1, pa2, rfl, ra, ba⟩
  obtain ⟨q1, q2⟩ : 0 ≤ k * k ∧ k * k ≤ 1000 * 1000 := ⟨Int.mul_nonneg pa1 pa1, Int.mul_le_mul (by omega) (by omega) pa1 (by omega)⟩
  go_wp2_with fail
  refine (pick_any R _ _ _ ra (by omega) (by omega) (by omega)).mono ?_
  rintro e wb ⟨vb, pb1, pb2, rfl, rb, bb⟩
  go_wp2_with fail
  refine (pick_any R _ _ _ rb (by omega) (by omega) (by omega)).mono ?_
  rintro e wc ⟨vc, pc1, pc2, rfl, rc, bc⟩
  have lc := rc.lt
  go_wp2_with fail
  refine (pick_any R _ _ _ ((rc.alloc _).alloc _) (by omega) (by omega) (by omega)).mono ?_
  rintro e wd ⟨vd, pd1, pd2, rfl, rd, bd⟩
  obtain ⟨x, hx, cx⟩ := lit_cell bd [0, 0, 1, 1, 1, 2, 3, 4] 3 (alloc2_snd _ _ _) (by omega) (fun x => 0 ≤ x ∧ x < 5) (by decide) vd pd1 pd2
  obtain ⟨hx1, hx2⟩ := hx
  obtain ⟨y, _, cy⟩ := lit_cell bd [vb, k * k + vc - 1, 1000000000000, 1000000000001, -1] 3 (alloc2_fst _ _ _) (by omega) (fun _ => True) (by simp) x hx1 hx2
  have B := Lib.hid ((((ba.trans bb).trans bc).alloc _).alloc _ |>.trans bd)
  clear ba bb bc bd r1 ra rb rc
  go_wp2_with fail
  go_ret
  exact ⟨y, rfl, b1.trans (B.out.below hR b1.size)⟩
end Go.Proofs.Ytmnpengjklghlaa
