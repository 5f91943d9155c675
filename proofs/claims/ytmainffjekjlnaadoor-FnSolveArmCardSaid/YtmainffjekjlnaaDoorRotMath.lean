/- Plain law: a rotation keeps the distance from the origin, but for rounding. -/
import Derived.Test.YtmainffjekjlnaaDoorTurn
namespace Go.Proofs.YtmainffjekjlnaaDoor
set_option linter.unusedVariables false
theorem sq_nn (z : Int) : 0 ≤ z * z := by
  rcases Int.le_total 0 z with h | h
  · exact Int.mul_nonneg h h
  · have := Int.mul_nonneg (show 0 ≤ -z by omega) (show 0 ≤ -z by omega)
    rw [Int.neg_mul_neg] at this; exact this
theorem le_of_sq {a b : Int} (hb : 0 ≤ b) (h : a * a ≤ b * b) : a ≤ b := by
  rcases Int.lt_or_le b a with k | k
  · have := Int.mul_le_mul (show b + 1 ≤ a by omega) (show b + 1 ≤ a by omega) (by omega) (by omega)
    have e : (b + 1) * (b + 1) = b * b + 2 * b + 1 := by grind
    omega
  · exact k
theorem tri {a b e f P Q : Int} (hP : 0 ≤ P) (hQ : 0 ≤ Q) (h1 : a * a + b * b ≤ P * P) (h2 : e * e + f * f ≤ Q * Q) : (a + e) * (a + e) + (b + f) * (b + f) ≤ (P + Q) * (P + Q) := by
  have g : (a * e + b * f) * (a * e + b * f) ≤ (P * Q) * (P * Q) := by
    have k1 := sq_nn (a * f - b * e)
    have k3 := sq_nn e
    have k4 := sq_nn f
    have k2 : (a * a + b * b) * (e * e + f * f) ≤ (P * P) * (Q * Q) := Int.mul_le_mul h1 h2 (by omega) (sq_nn P)
    have e1 : (a * e + b * f) * (a * e + b * f) + (a * f - b * e) * (a * f - b * e) = (a * a + b * b) * (e * e + f * f) := by grind
    have e2 : (P * Q) * (P * Q) = (P * P) * (Q * Q) := by grind
    rw [e2]; rw [← e1] at k2; generalize (P * P) * (Q * Q) = u at *; generalize (a * e + b * f) * (a * e + b * f) = v at *; omega
  have g2 := le_of_sq (Int.mul_nonneg hP hQ) g
  have e3 : (a + e) * (a + e) + (b + f) * (b + f) = (a * a + b * b) + (e * e + f * f) + 2 * (a * e + b * f) := by grind
  have e4 : (P + Q) * (P + Q) = P * P + Q * Q + 2 * (P * Q) := by grind
  rw [e3, e4]; omega
theorem rd_err (n : Int) : -2048 ≤ 4096 * M.rd n - n ∧ 4096 * M.rd n - n ≤ 2048 := by unfold M.rd; omega
theorem rot_len {x y d w i : Int} (hw : 0 ≤ w ∧ w * w ≤ x * x + y * y ∧ x * x + y * y < (w + 1) * (w + 1))
    (hi : 0 ≤ i ∧ i * i ≤ M.tx x y d * M.tx x y d + M.ty x y d * M.ty x y d ∧ M.tx x y d * M.tx x y d + M.ty x y d * M.ty x y d < (i + 1) * (i + 1)) :
    4096 * i ≤ 4097 * (w + 1) + 2897 ∧ 4094 * w ≤ 4096 * (i + 1) + 2897 := by
  obtain ⟨_, _, _, t1, t2⟩ := trig d
  obtain ⟨a1, a2⟩ := rd_err (x * M.cosine d - y * M.sine d)
  obtain ⟨b1, b2⟩ := rd_err (x * M.sine d + y * M.cosine d)
  have hX : M.rd (x * M.cosine d - y * M.sine d) = M.tx x y d := rfl
  have hY : M.rd (x * M.sine d + y * M.cosine d) = M.ty x y d := rfl
  rw [hX] at a1 a2
  rw [hY] at b1 b2
  generalize M.tx x y d = X at *
  generalize M.ty x y d = Y at *
  generalize M.cosine d = c at *
  generalize M.sine d = s at *
  obtain ⟨A, hA⟩ : ∃ A, A = x * c - y * s := ⟨_, rfl⟩
  obtain ⟨B, hB⟩ : ∃ B, B = x * s + y * c := ⟨_, rfl⟩
  have hF : A * A + B * B = (x * x + y * y) * (s * s + c * c) := by subst hA hB; grind
  rw [← hA] at a1 a2
  rw [← hB] at b1 b2
  clear hA hB hX hY
  obtain ⟨e, he⟩ : ∃ e, e = 4096 * X - A := ⟨_, rfl⟩
  obtain ⟨f, hf⟩ : ∃ f, f = 4096 * Y - B := ⟨_, rfl⟩
  rw [← he] at a1 a2
  rw [← hf] at b1 b2
  have e2 := (M.mul_bd (x := e) (y := e) (B := 2048) (C := 2048) a1 a2 a1 a2 (by omega)).2
  have f2 := (M.mul_bd (x := f) (y := f) (B := 2048) (C := 2048) b1 b2 b1 b2 (by omega)).2
  generalize hK : s * s + c * c = K at *
  generalize hN : x * x + y * y = N at *
  have hN0 : 0 ≤ N := by have := sq_nn x; have := sq_nn y; omega
  obtain ⟨w0, w1, w2⟩ := hw
  obtain ⟨i0, i1, i2⟩ := hi
  have hE : e * e + f * f ≤ 2897 * 2897 := by omega
  constructor
  · have hP : A * A + B * B ≤ (4097 * (w + 1)) * (4097 * (w + 1)) := by
      have k := Int.mul_le_mul (show N ≤ (w + 1) * (w + 1) by omega) (show K ≤ 16785409 by omega) (by omega) (sq_nn (w + 1))
      have e1 : (4097 * (w + 1)) * (4097 * (w + 1)) = (w + 1) * (w + 1) * 16785409 := by grind
      rw [hF, e1]; exact k
    have h := tri (by omega) (by omega) hP hE
    have ex : A + e = 4096 * X := by omega
    have ey : B + f = 4096 * Y := by omega
    rw [ex, ey] at h
    refine le_of_sq (by omega) (Int.le_trans ?_ h)
    have e3 : 4096 * i * (4096 * i) = 16777216 * (i * i) := by grind
    have e4 : 4096 * X * (4096 * X) + 4096 * Y * (4096 * Y) = 16777216 * (X * X + Y * Y) := by grind
    rw [e3, e4]; omega
  · have hP : (4096 * X) * (4096 * X) + (4096 * Y) * (4096 * Y) ≤ (4096 * (i + 1)) * (4096 * (i + 1)) := by
      have e3 : 4096 * (i + 1) * (4096 * (i + 1)) = 16777216 * ((i + 1) * (i + 1)) := by grind
      have e4 : 4096 * X * (4096 * X) + 4096 * Y * (4096 * Y) = 16777216 * (X * X + Y * Y) := by grind
      rw [e3, e4]; omega
    have hE2 : (-e) * (-e) + (-f) * (-f) ≤ 2897 * 2897 := by rw [Int.neg_mul_neg, Int.neg_mul_neg]; exact hE
    have h := tri (by omega) (by omega) hP hE2
    have ex : 4096 * X + -e = A := by omega
    have ey : 4096 * Y + -f = B := by omega
    rw [ex, ey, hF] at h
    refine le_of_sq (by omega) (Int.le_trans ?_ h)
    have k := Int.mul_le_mul w1 (show (16760836 : Int) ≤ K by omega) (by omega) hN0
    have e3 : 4094 * w * (4094 * w) = w * w * 16760836 := by grind
    rw [e3]; exact k
theorem turn_90 (x y : Int) : M.tx x y 90 = -y ∧ M.ty x y 90 = x := by
  have e1 : M.cosine 90 = 0 := by decide +kernel
  have e2 : M.sine 90 = 4096 := by decide +kernel
  unfold M.tx M.ty M.rd; rw [e1, e2]; omega
theorem turn_0 (x y : Int) : M.tx x y 0 = x ∧ M.ty x y 0 = y := by
  have e1 : M.cosine 0 = 4096 := by decide +kernel
  have e2 : M.sine 0 = 0 := by decide +kernel
  unfold M.tx M.ty M.rd; rw [e1, e2]; omega
theorem turn_small {x y d : Int} (h1 : -10000 ≤ x) (h2 : x ≤ 10000) (h3 : -10000 ≤ y) (h4 : y ≤ 10000) : (-20001 ≤ M.tx x y d ∧ M.tx x y d ≤ 20001) ∧ (-20001 ≤ M.ty x y d ∧ M.ty x y d ≤ 20001) := by
  obtain ⟨⟨⟨s1, s2⟩, ⟨s3, s4⟩⟩, _⟩ := trig d
  obtain ⟨m1, m2⟩ := M.mul_bd (x := x) (y := M.cosine d) (B := 10000) (C := 4096) (by omega) (by omega) (by omega) (by omega) (by omega)
  obtain ⟨m3, m4⟩ := M.mul_bd (x := y) (y := M.sine d) (B := 10000) (C := 4096) (by omega) (by omega) (by omega) (by omega) (by omega)
  obtain ⟨m5, m6⟩ := M.mul_bd (x := x) (y := M.sine d) (B := 10000) (C := 4096) (by omega) (by omega) (by omega) (by omega) (by omega)
  obtain ⟨m7, m8⟩ := M.mul_bd (x := y) (y := M.cosine d) (B := 10000) (C := 4096) (by omega) (by omega) (by omega) (by omega) (by omega)
  unfold M.tx M.ty M.rd; omega
end Go.Proofs.YtmainffjekjlnaaDoor
