/- Plain facts on the table of sines, each number of degrees by the kernel; the laws' abs. -/
import Derived.Test.YtmainffjekjlnaaDoorCosine
namespace Go.Proofs.YtmainffjekjlnaaDoor
open Go.ChangeShapes Go.WideShapes Go.ChangeAt Go.RowKit
set_option linter.unusedVariables false
theorem sine_mod (d : Int) : M.sine (d % 360) = M.sine d := by unfold M.sine; rw [Int.emod_emod_of_dvd _ (Int.dvd_refl _)]
theorem cosine_mod (d : Int) : M.cosine (d % 360) = M.cosine d := by unfold M.cosine; rw [Int.emod_emod_of_dvd _ (Int.dvd_refl _)]
def M.trigB (k : Nat) : Bool :=
  decide (-4096 ≤ M.sine k ∧ M.sine k ≤ 4096) && (decide (M.sine ((k : Int) + 180) = - M.sine k) && (decide (M.sine (180 - (k : Int)) = M.sine k) &&
  (decide (M.cosine (-(k : Int)) = M.cosine k) && (decide (-4096 ≤ M.cosine k ∧ M.cosine k ≤ 4096) && decide (-8192 ≤ M.sine k * M.sine k + M.cosine k * M.cosine k - 16777216 ∧ M.sine k * M.sine k + M.cosine k * M.cosine k - 16777216 ≤ 8192)))))
theorem trig_all : (List.range 360).all M.trigB = true := by decide +kernel
theorem trig (d : Int) : ((-4096 ≤ M.sine d ∧ M.sine d ≤ 4096) ∧ (-4096 ≤ M.cosine d ∧ M.cosine d ≤ 4096)) ∧ (M.sine (d % 360 + 180) = - M.sine d ∧ M.sine (180 - d % 360) = M.sine d) ∧ M.cosine (-(d % 360)) = M.cosine d ∧
    (-8192 ≤ M.sine d * M.sine d + M.cosine d * M.cosine d - 16777216 ∧ M.sine d * M.sine d + M.cosine d * M.cosine d - 16777216 ≤ 8192) := by
  obtain ⟨k, hk⟩ := Int.eq_ofNat_of_zero_le (show 0 ≤ d % 360 by omega)
  have h := List.all_eq_true.1 trig_all k (by simp; omega)
  unfold M.trigB at h
  simp only [Bool.and_eq_true, decide_eq_true_eq] at h
  rw [← hk, sine_mod, cosine_mod] at h
  obtain ⟨h1, h2, h3, h4, h5, h6⟩ := h
  exact ⟨⟨h1, h5⟩, ⟨h2, h3⟩, h4, h6⟩
end Go.Proofs.YtmainffjekjlnaaDoor
