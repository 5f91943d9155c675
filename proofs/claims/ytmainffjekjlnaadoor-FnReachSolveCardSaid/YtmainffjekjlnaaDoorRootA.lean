/- Contracts of the square root of a whole number, in the impl package (XRoot over XAngle: for seats that hold XAngle). -/
import Derived.Test.YtmainffjekjlnaaDoorFl
import Derived.Test.YtmainffjekjlnaaDoorAngle
import Derived.Laws.Externs
namespace Go.Proofs.YtmainffjekjlnaaDoor
open Go.ChangeShapes Go.WideShapes Go.ChangeAt Go.RowKit
set_option linter.unusedVariables false
/-- the greatest number whose square is at most n; 0 out of range -/
def IsRoot (n r : Int) : Prop := if 0 ≤ n ∧ n ≤ 1000000000000 then 0 ≤ r ∧ r * r ≤ n ∧ n < (r + 1) * (r + 1) else r = 0
theorem sq_lt {a b : Int} (ha : 0 ≤ a) (h : a < b) : (a + 1) * (a + 1) ≤ b * b := Int.mul_le_mul (by omega) (by omega) (by omega) (by omega)
theorem IsRoot.uniq {n a b : Int} (h : IsRoot n a) (k : IsRoot n b) : a = b := by
  unfold IsRoot at h k
  by_cases hn : 0 ≤ n ∧ n ≤ 1000000000000
  · rw [if_pos hn] at h k
    obtain ⟨h1, h2, h3⟩ := h
    obtain ⟨k1, k2, k3⟩ := k
    rcases Int.lt_or_le a b with hlt | hle
    · have := sq_lt h1 hlt; omega
    · rcases Int.lt_or_le b a with hlt | hle2
      · have := sq_lt k1 hlt; omega
      · omega
  · rw [if_neg hn] at h k; omega
theorem IsRoot.out {n : Int} (h : n < 0 ∨ 1000000000000 < n) : IsRoot n 0 := by unfold IsRoot; rw [if_neg (by omega)]
theorem IsRoot.mk {n r : Int} (h0 : 0 ≤ n) (h1 : n ≤ 1000000000000) (a : 0 ≤ r) (b : r * r ≤ n) (c : n < (r + 1) * (r + 1)) : IsRoot n r := by unfold IsRoot; rw [if_pos ⟨h0, h1⟩]; exact ⟨a, b, c⟩
theorem sq_bd {r B : Int} (h0 : 0 ≤ r) (h1 : r ≤ B) : 0 ≤ r * r ∧ r * r ≤ B * B := ⟨Int.mul_nonneg h0 h0, Int.mul_le_mul h1 h1 h0 (by omega)⟩
theorem root_small {r n : Int} (h0 : 0 ≤ r) (h : r * r ≤ n) (hn : n ≤ 1000000000000) : r ≤ 1000000 := by
  rcases Int.lt_or_le 1000000 r with hlt | hle
  · have := Int.mul_le_mul (show 1000001 ≤ r by omega) (show 1000001 ≤ r by omega) (by omega) (by omega); omega
  · exact hle
/-- the outcome of a square root -/
def Rooted (n : Int) (w : World) (e : Ending) (w' : World) : Prop := ∃ r : Int, e = .returned (.int .i64 r) ∧ IsRoot n r ∧ w = w'
theorem math_sqrt (x y : Nat) (w : World) (h : Ieee.double.sqrt x = some y) :
    Calls Tryd.prog 48 #[.float .f64 x] w fun e w' => e = .returned (.float .f64 y) ∧ w = w' := by
  have hcall : ∀ w, (callFunc 68 #[.float .f64 x]).run Tryd.prog w = .ok (.value (.float .f64 y)) w := by
    intro w
    rw [run_callFunc_extern (e := Extern.MathSqrt.sqrt) Tryd.func68 (by kernel_rfl) (by kernel_rfl) (by kernel_rfl) (by kernel_rfl)]
    have e1 : FloatKind.f64.format.sqrt x = some y := h
    have e2 : Extern.MathSqrt.sqrt #[.float .f64 x] = (match FloatKind.f64.format.sqrt x with | some r => pure (.float .f64 r) | none => do pure (.float .f64 (← choose (.nanBits .f64 x x)))) := rfl
    rw [e2, e1]
    rfl
  go_enter Tryd.func48, Tryd.ntmps48
  go_wp2
  go_ret
  exact ⟨rfl, rfl⟩
set_option maxHeartbeats 1000000 in
theorem impl_root (n : Int) (w : World) : Calls Tryd.prog 15 #[.int .i64 n] w (Rooted n w) := by
  by_cases hn : 0 ≤ n ∧ n ≤ 1000000000000
  · obtain ⟨n0, n1⟩ := hn
    obtain ⟨x, r0, hs, hc, r1, r2⟩ := M.root_int n n0 n1
    have hcv : ∀ w, (convert 68 3 (.float .f64 x)).run Tryd.prog w = .ok (.int .i64 r0) w := fun w => run_convert_float_int w 68 3 .f64 .i64 x r0 (by rw [Tryd.underlying68]; rfl) Tryd.underlying3 hc
    replace hs := Lib.hid hs
    replace hc := Lib.hid hc
    go_enter Tryd.func15, Tryd.ntmps15
    go_wp2_with (go_at_call 48; refine (math_sqrt _ x _ hs.out).mono ?_; rintro e w' ⟨rfl, rfl⟩)
    go_loop [3] (fun v => ∃ r : Int, v = .int .i64 r ∧ 0 ≤ r ∧ r < 2147483648) (fun v => (intOf v).toNat)
    case atStart => exact ⟨r0, rfl, r1, r2⟩
    case round =>
      obtain ⟨r, rfl, p1, p2⟩ := hrel
      obtain ⟨q1, q2⟩ := sq_bd (B := 2147483648) p1 (by omega)
      by_cases hgt : n < r * r
      · have hr : 0 < r := by
          rcases Int.lt_or_le 0 r with h | h
          · exact h
          · have : r = 0 := by omega
            subst this; omega
        go_wp2
        go_round
        case rel => exact ⟨r - 1, rfl, by omega, by omega⟩
        case measure => simp [intOf]; omega
      · have hle : r * r ≤ n := by omega
        go_wp2
        go_loop [3] (fun v => ∃ q : Int, v = .int .i64 q ∧ 0 ≤ q ∧ q * q ≤ n) (fun v => (1000001 - intOf v).toNat)
        case atStart => exact ⟨r, rfl, p1, hle⟩
        case round =>
          obtain ⟨q, rfl, s1, s2⟩ := hrel
          have s3 := root_small s1 s2 n1
          obtain ⟨s4, s5⟩ := sq_bd (r := q + 1) (B := 1000001) (by omega) (by omega)
          by_cases hup : (q + 1) * (q + 1) ≤ n
          · have hup2 := Lib.hid hup
            have s6 := root_small (r := q + 1) (by omega) hup n1
            go_wp2
            go_round
            case rel => exact ⟨q + 1, rfl, by omega, hup2.out⟩
            case measure => simp [intOf]; omega
          · have hroot := Lib.hid (IsRoot.mk n0 n1 s1 s2 (by omega))
            go_wp2
            go_ret
            exact ⟨q, rfl, hroot.out, rfl⟩
  · have ho := Lib.hid (IsRoot.out (n := n) (by omega))
    have hn2 : n < 0 ∨ 1000000000000 < n := by omega
    clear hn
    rcases hn2 with h | h
    · go_enter Tryd.func15, Tryd.ntmps15
      go_wp2
      go_ret
      exact ⟨0, rfl, ho.out, rfl⟩
    · go_enter Tryd.func15, Tryd.ntmps15
      go_wp2
      go_ret
      exact ⟨0, rfl, ho.out, rfl⟩
end Go.Proofs.YtmainffjekjlnaaDoor
