/- Contracts of the points of a line, in both packages. -/
import Derived.Test.YtmnpengjklghlaaPts
import Derived.Test.YtmnpengjklghlaaIn
namespace Go.Proofs.Ytmnpengjklghlaa
open Go.ChangeShapes Go.WideShapes Go.ChangeAt Go.RowKit
set_option linter.unusedVariables false
/-- a coordinate of the point number k of n -/
def M.lc (a c n k : Int) : Int := a + k * (c - a) / n
def M.line (a b c d n : Int) (m : Nat) : List (Int × Int) := (List.range m).map fun (k : Nat) => (M.lc a c n k, M.lc b d n k)
theorem M.line_len (a b c d n : Int) (m : Nat) : (M.line a b c d n m).length = m := by simp [M.line]
theorem M.line_succ (a b c d n : Int) (m : Nat) : M.line a b c d n (m + 1) = M.line a b c d n m ++ [(M.lc a c n m, M.lc b d n m)] := by
  unfold M.line; rw [List.range_succ, List.map_append]; rfl
def okLine (a b c d n : Int) : Prop := (M.pvB a b = true ∧ M.pvB c d = true) ∧ (1 ≤ n ∧ n ≤ 400)
instance (a b c d n : Int) : Decidable (okLine a b c d n) := by unfold okLine; infer_instance
def M.lpts (a b c d n : Int) : List (Int × Int) := if okLine a b c d n then M.line a b c d n (n + 1).toNat else []
theorem M.lpts_yes {a b c d n : Int} (h : okLine a b c d n) : M.lpts a b c d n = M.line a b c d n (n + 1).toNat := by unfold M.lpts; exact if_pos h
theorem M.lpts_no {a b c d n : Int} (h : ¬ okLine a b c d n) : M.lpts a b c d n = [] := by unfold M.lpts; exact if_neg h
theorem lc_bd {a c n k : Int} (h1 : -10000 ≤ a ∧ a ≤ 10000) (h2 : -10000 ≤ c ∧ c ≤ 10000) (h3 : 1 ≤ n ∧ n ≤ 400) (h4 : 0 ≤ k ∧ k ≤ n) :
    (-20000 ≤ c - a ∧ c - a ≤ 20000) ∧ (-8000000 ≤ k * (c - a) ∧ k * (c - a) ≤ 8000000) ∧ (min a c ≤ M.lc a c n k ∧ M.lc a c n k ≤ max a c) := by
  have m1 := M.mul_bd (x := k) (y := c - a) (B := 400) (C := 20000) (by omega) (by omega) (by omega) (by omega) (by omega)
  refine ⟨⟨by omega, by omega⟩, ⟨by omega, by omega⟩, ?_⟩
  unfold M.lc
  rcases Int.le_total a c with h | h
  · have q1 : 0 ≤ k * (c - a) := Int.mul_nonneg h4.1 (by omega)
    have q2 : k * (c - a) ≤ n * (c - a) := Int.mul_le_mul_of_nonneg_right h4.2 (by omega)
    have q3 : 0 ≤ k * (c - a) / n := Int.ediv_nonneg q1 (by omega)
    have q4 : k * (c - a) / n ≤ c - a := by
      have := Int.ediv_le_ediv (show 0 < n by omega) q2
      rwa [Int.mul_ediv_cancel_left _ (by omega)] at this
    omega
  · have q1 : k * (a - c) ≤ n * (a - c) := Int.mul_le_mul_of_nonneg_right h4.2 (by omega)
    have q0 : 0 ≤ k * (a - c) := Int.mul_nonneg h4.1 (by omega)
    have e1 : k * (c - a) = -(k * (a - c)) := by rw [← Int.mul_neg]; congr 1; omega
    have e2 : n * (c - a) = -(n * (a - c)) := by rw [← Int.mul_neg]; congr 1; omega
    have q3 : k * (c - a) / n ≤ 0 := by
      have := Int.ediv_le_ediv (show 0 < n by omega) (show k * (c - a) ≤ 0 by omega)
      rwa [Int.zero_ediv] at this
    have q4 : c - a ≤ k * (c - a) / n := by
      have := Int.ediv_le_ediv (show 0 < n by omega) (show n * (c - a) ≤ k * (c - a) by omega)
      rwa [Int.mul_ediv_cancel_left _ (by omega)] at this
    omega
end Go.Proofs.Ytmnpengjklghlaa
