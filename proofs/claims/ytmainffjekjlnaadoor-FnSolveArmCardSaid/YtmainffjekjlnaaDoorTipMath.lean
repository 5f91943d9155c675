/- Plain laws of an arm's points: a turned link keeps its length up to 1, the tip stays within the reach up to 1 a link, and lies on the X axis where all angles are 0. -/
import Derived.Test.YtmainffjekjlnaaDoorTip
import Derived.Test.YtmainffjekjlnaaDoorRotMath
namespace Go.Proofs.YtmainffjekjlnaaDoor
open Go.ChangeShapes Go.WideShapes Go.ChangeAt Go.RowKit
set_option linter.unusedVariables false
theorem M.tx_x (n d : Int) : M.tx n 0 d = M.rd (n * M.cosine d) := by unfold M.tx; rw [Int.zero_mul, Int.sub_zero]
theorem M.ty_x (n d : Int) : M.ty n 0 d = M.rd (n * M.sine d) := by unfold M.ty; rw [Int.zero_mul, Int.add_zero]
/-- a turned link's length -/
theorem M.link_len {n d : Int} (h1 : 1 ≤ n) (h2 : n ≤ 500) : (n - 1) * (n - 1) ≤ M.tx n 0 d * M.tx n 0 d + M.ty n 0 d * M.ty n 0 d ∧ M.tx n 0 d * M.tx n 0 d + M.ty n 0 d * M.ty n 0 d ≤ (n + 1) * (n + 1) := by
  obtain ⟨_, _, _, t1, t2⟩ := trig d
  rw [M.tx_x, M.ty_x]
  obtain ⟨a1, a2⟩ := rd_err (n * M.cosine d)
  obtain ⟨b1, b2⟩ := rd_err (n * M.sine d)
  generalize M.rd (n * M.cosine d) = X at *
  generalize M.rd (n * M.sine d) = Y at *
  generalize M.cosine d = c at *
  generalize M.sine d = s at *
  obtain ⟨e, he⟩ : ∃ e, e = 4096 * X - n * c := ⟨_, rfl⟩
  obtain ⟨f, hf⟩ : ∃ f, f = 4096 * Y - n * s := ⟨_, rfl⟩
  rw [← he] at a1 a2
  rw [← hf] at b1 b2
  have e2 := (M.mul_bd (x := e) (y := e) (B := 2048) (C := 2048) a1 a2 a1 a2 (by omega)).2
  have f2 := (M.mul_bd (x := f) (y := f) (B := 2048) (C := 2048) b1 b2 b1 b2 (by omega)).2
  have hef : e * e + f * f ≤ 2897 * 2897 := by omega
  have hn : 0 ≤ n * n := sq_nn n
  have hN : (n * c) * (n * c) + (n * s) * (n * s) = (n * n) * (s * s + c * c) := by grind
  constructor
  · rcases Int.lt_or_le (X * X + Y * Y) ((n - 1) * (n - 1)) with hlt | hge
    · exfalso
      have k1 : (4096 * X) * (4096 * X) + (4096 * Y) * (4096 * Y) ≤ (4096 * (n - 1)) * (4096 * (n - 1)) := by
        have g1 : (4096 * X) * (4096 * X) + (4096 * Y) * (4096 * Y) = 16777216 * (X * X + Y * Y) := by grind
        have g2 : (4096 * (n - 1)) * (4096 * (n - 1)) = 16777216 * ((n - 1) * (n - 1)) := by grind
        rw [g1, g2]; omega
      have k2 : (-e) * (-e) + (-f) * (-f) ≤ 2897 * 2897 := by rw [Int.neg_mul_neg, Int.neg_mul_neg]; exact hef
      have k3 := tri (by omega : 0 ≤ 4096 * (n - 1)) (by omega : (0 : Int) ≤ 2897) k1 k2
      have g1 : 4096 * X + -e = n * c := by omega
      have g2 : 4096 * Y + -f = n * s := by omega
      rw [g1, g2, hN] at k3
      have k4 : (4094 * n) * (4094 * n) ≤ (n * n) * (s * s + c * c) := by
        have g3 : (4094 * n) * (4094 * n) = (n * n) * 16760836 := by grind
        rw [g3]
        exact Int.mul_le_mul_of_nonneg_left (by omega) hn
      have k5 := le_of_sq (by omega) (Int.le_trans k4 k3)
      omega
    · exact hge
  · have k1 : (n * c) * (n * c) + (n * s) * (n * s) ≤ (4097 * n) * (4097 * n) := by
      rw [hN]
      have g3 : (4097 * n) * (4097 * n) = (n * n) * 16785409 := by grind
      rw [g3]
      exact Int.mul_le_mul_of_nonneg_left (by omega) hn
    have k3 := tri (by omega : 0 ≤ 4097 * n) (by omega : (0 : Int) ≤ 2897) k1 hef
    have g1 : n * c + e = 4096 * X := by omega
    have g2 : n * s + f = 4096 * Y := by omega
    rw [g1, g2] at k3
    have g4 : (4096 * X) * (4096 * X) + (4096 * Y) * (4096 * Y) = 16777216 * (X * X + Y * Y) := by grind
    have g5 : (4097 * n + 2897) * (4097 * n + 2897) ≤ (4096 * (n + 1)) * (4096 * (n + 1)) := Int.mul_le_mul (by omega) (by omega) (by omega) (by omega)
    have g6 : (4096 * (n + 1)) * (4096 * (n + 1)) = 16777216 * ((n + 1) * (n + 1)) := by grind
    rw [g4] at k3
    rw [g6] at g5
    omega
/-- the tip is within the reach, up to 1 a link -/
theorem M.tip_far {l j : List Int} : ∀ {k : Nat}, (∀ i, i < k → 1 ≤ l.getD i 0 ∧ l.getD i 0 ≤ 500) → M.pxT l j k * M.pxT l j k + M.pyT l j k * M.pyT l j k ≤ (M.sumT l k + k) * (M.sumT l k + k) := by
  intro k
  induction k with
  | zero => intro _; exact Int.le_refl _
  | succ k ih =>
    intro h
    have h1 := ih (fun i hi => h i (by omega))
    obtain ⟨h2, h3⟩ := h k (by omega)
    have h4 := (M.sumT_bd (l := l) (B := 500) (k := k) (fun i hi => h i (by omega))).1
    have h5 := (M.link_len (d := M.sumT j (k + 1)) h2 h3).2
    have h6 := tri (by omega) (by omega) h1 h5
    have e0 : M.sumT l (k + 1) = M.sumT l k + l.getD k 0 := rfl
    have e : M.sumT l k + (k : Int) + (l.getD k 0 + 1) = M.sumT l (k + 1) + ((k + 1 : Nat) : Int) := by rw [e0, Int.natCast_succ]; omega
    rw [e] at h6
    exact h6
theorem M.sum_zero (m : Nat) : ∀ k, M.sumT (List.replicate m 0) k = 0 := by
  intro k
  induction k with
  | zero => rfl
  | succ k ih =>
    unfold M.sumT
    rw [ih, List.getD_eq_getElem?_getD, List.getElem?_replicate]
    split <;> rfl
/-- where all angles are 0, the tip is on the X axis at the full reach -/
theorem M.tip_zero (l : List Int) (m : Nat) : ∀ k, M.pxT l (List.replicate m 0) k = M.sumT l k ∧ M.pyT l (List.replicate m 0) k = 0 := by
  intro k
  induction k with
  | zero => exact ⟨rfl, rfl⟩
  | succ k ih =>
    unfold M.pxT M.pyT
    rw [M.sum_zero, ih.1, ih.2, (turn_0 _ _).1, (turn_0 _ _).2]
    exact ⟨rfl, rfl⟩
/-- consecutive points lie a link apart, up to 1 -/
theorem M.pts_step {l j : List Int} {k : Nat} (h1 : 1 ≤ l.getD k 0) (h2 : l.getD k 0 ≤ 500) :
    (l.getD k 0 - 1) * (l.getD k 0 - 1) ≤ (M.pxT l j k - M.pxT l j (k + 1)) * (M.pxT l j k - M.pxT l j (k + 1)) + (M.pyT l j k - M.pyT l j (k + 1)) * (M.pyT l j k - M.pyT l j (k + 1)) ∧
    (M.pxT l j k - M.pxT l j (k + 1)) * (M.pxT l j k - M.pxT l j (k + 1)) + (M.pyT l j k - M.pyT l j (k + 1)) * (M.pyT l j k - M.pyT l j (k + 1)) ≤ (l.getD k 0 + 1) * (l.getD k 0 + 1) := by
  have h := M.link_len (d := M.sumT j (k + 1)) h1 h2
  have e1 : M.pxT l j (k + 1) = M.pxT l j k + M.tx (l.getD k 0) 0 (M.sumT j (k + 1)) := rfl
  have e2 : M.pyT l j (k + 1) = M.pyT l j k + M.ty (l.getD k 0) 0 (M.sumT j (k + 1)) := rfl
  rw [e1, e2]
  generalize M.tx (l.getD k 0) 0 (M.sumT j (k + 1)) = X at *
  generalize M.ty (l.getD k 0) 0 (M.sumT j (k + 1)) = Y at *
  generalize M.pxT l j k = p at *
  generalize M.pyT l j k = q at *
  have g1 : p - (p + X) = -X := by omega
  have g2 : q - (q + Y) = -Y := by omega
  rw [g1, g2, Int.neg_mul_neg, Int.neg_mul_neg]
  exact h
/-- a step of less than Q leads less than P + Q away -/
theorem tri_lt {a b e f P Q : Int} (hP : 0 ≤ P) (hQ : 0 ≤ Q) (h1 : a * a + b * b ≤ P * P) (h2 : e * e + f * f < Q * Q) : (a + e) * (a + e) + (b + f) * (b + f) < (P + Q) * (P + Q) := by
  have g : (a * e + b * f) * (a * e + b * f) ≤ (P * Q) * (P * Q) := by
    have k1 := sq_nn (a * f - b * e)
    have k3 := sq_nn e
    have k4 := sq_nn f
    have k2 : (a * a + b * b) * (e * e + f * f) ≤ (P * P) * (Q * Q) := Int.mul_le_mul h1 (Int.le_of_lt h2) (by omega) (sq_nn P)
    have e1 : (a * e + b * f) * (a * e + b * f) + (a * f - b * e) * (a * f - b * e) = (a * a + b * b) * (e * e + f * f) := by grind
    have e2 : (P * Q) * (P * Q) = (P * P) * (Q * Q) := by grind
    rw [e2]; rw [← e1] at k2; generalize (P * P) * (Q * Q) = u at *; generalize (a * e + b * f) * (a * e + b * f) = v at *; omega
  have g2 := le_of_sq (Int.mul_nonneg hP hQ) g
  have e3 : (a + e) * (a + e) + (b + f) * (b + f) = (a * a + b * b) + (e * e + f * f) + 2 * (a * e + b * f) := by grind
  have e4 : (P + Q) * (P + Q) = P * P + Q * Q + 2 * (P * Q) := by grind
  rw [e3, e4]; omega
/-- a point beyond the reach stays as far from the tip as it is from the reach -/
theorem M.gap_le {px py X Y F away gap : Int} (hF : 0 ≤ F) (hg : gap = max 0 (away - F)) (h1 : px * px + py * py ≤ F * F) (ha0 : 0 ≤ away) (ha : away * away ≤ X * X + Y * Y) : gap * gap ≤ (px - X) * (px - X) + (py - Y) * (py - Y) := by
  rcases Int.lt_or_le ((px - X) * (px - X) + (py - Y) * (py - Y)) (gap * gap) with h | h
  · exfalso
    have hg0 : 0 ≤ gap := by omega
    have e1 : (X - px) * (X - px) + (Y - py) * (Y - py) = (px - X) * (px - X) + (py - Y) * (py - Y) := by grind
    rw [← e1] at h
    have k := tri_lt hF hg0 h1 h
    have g1 : px + (X - px) = X := by omega
    have g2 : py + (Y - py) = Y := by omega
    rw [g1, g2] at k
    by_cases hz : gap = 0
    · rw [hz] at h
      have := sq_nn (X - px)
      have := sq_nn (Y - py)
      omega
    · have e2 : F + gap = away := by omega
      rw [e2] at k
      omega
  · exact h
end Go.Proofs.YtmainffjekjlnaaDoor
