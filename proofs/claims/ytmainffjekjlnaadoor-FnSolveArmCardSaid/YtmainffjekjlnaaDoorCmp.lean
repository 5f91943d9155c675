/- Contracts of cmp.Compare on numbers and of slices.Compare on two pairs of numbers. -/
import Derived.Test.YtmainffjekjlnaaDoorFollow
namespace Go.Proofs.YtmainffjekjlnaaDoor
open Go.ChangeShapes Go.WideShapes Go.ChangeAt Go.RowKit
set_option linter.unusedVariables false
def M.cmp1 (x y : Int) : Int := if x < y then -1 else if y < x then 1 else 0
theorem M.cmp1_lt {x y : Int} (h : x < y) : -1 = M.cmp1 x y := by unfold M.cmp1; rw [if_pos h]
theorem M.cmp1_gt {x y : Int} (h : y < x) : 1 = M.cmp1 x y := by unfold M.cmp1; rw [if_neg (by omega), if_pos h]
theorem M.cmp1_eq {x y : Int} (h : x = y) : 0 = M.cmp1 x y := by unfold M.cmp1; rw [if_neg (by omega), if_neg (by omega)]
theorem is_nan (n : Int) (w : World) : Calls Tryd.prog 72 #[.int .i64 n] w fun e w' => e = .returned (.bool false) ∧ w = w' := by
  have h : (n != n) = false := by simp
  go_enter Tryd.func72, Tryd.ntmps72
  go_wp2
  go_ret
  exact ⟨rfl, rfl⟩
theorem cmp_int (x y : Int) (w : World) : Calls Tryd.prog 64 #[.int .i64 x, .int .i64 y] w fun e w' => e = .returned (.int .i64 (M.cmp1 x y)) ∧ w = w' := by
  rcases Int.lt_trichotomy x y with h | h | h
  · go_enter Tryd.func64, Tryd.ntmps64
    go_wp2_with (go_at_call 72; refine (is_nan _ _).mono ?_; rintro e w' ⟨rfl, rfl⟩)
    go_ret
    exact ⟨ret_int (M.cmp1_lt h), rfl⟩
  · subst h
    go_enter Tryd.func64, Tryd.ntmps64
    go_wp2_with (go_at_call 72; refine (is_nan _ _).mono ?_; rintro e w' ⟨rfl, rfl⟩)
    go_ret
    exact ⟨ret_int (M.cmp1_eq rfl), rfl⟩
  · have h2 : ¬ x < y := by omega
    go_enter Tryd.func64, Tryd.ntmps64
    go_wp2_with (go_at_call 72; refine (is_nan _ _).mono ?_; rintro e w' ⟨rfl, rfl⟩)
    go_ret
    exact ⟨ret_int (M.cmp1_gt h), rfl⟩
def M.cmp2 (p q s t : Int) : Int := if M.cmp1 p s = 0 then M.cmp1 q t else M.cmp1 p s
theorem M.cmp2_lt (p q s t : Int) : M.cmp2 p q s t < 0 ↔ (p < s ∨ (p = s ∧ q < t)) := by
  unfold M.cmp2 M.cmp1
  by_cases h1 : p < s
  · simp [h1]
  · by_cases h2 : s < p
    · simp [h1, h2]; omega
    · obtain rfl : p = s := by omega
      by_cases h3 : q < t
      · simp [h3]
      · by_cases h4 : t < q
        · simp [h3, h4]
        · simp [h3, h4]
set_option maxHeartbeats 1000000 in
theorem slices_cmp2 (a b : Nat) (p q s t : Int) (w : World) (ha : Slot w a p q) (hb : Slot w b s t) :
    Calls Tryd.prog 40 #[.slice (some ⟨a, 0, none⟩) 2 2, .slice (some ⟨b, 0, none⟩) 2 2] w fun e w' => e = .returned (.int .i64 (M.cmp2 p q s t)) ∧ w = w' := by
  obtain ⟨a0, a1, a2, a3, a4⟩ := ha
  obtain ⟨b0, b1, b2, b3, b4⟩ := hb
  clear a2 a3 a4 b2 b3 b4
  go_enter Tryd.func40, Tryd.ntmps40
  go_wp2_with fail
  go_loop [5, 11] (fun _ i => ∃ k : Nat, i = .int .i64 k ∧ k ≤ 2 ∧ (1 ≤ k → M.cmp1 p s = 0) ∧ (2 ≤ k → M.cmp1 q t = 0)) (fun _ i => 2 - (intOf i).toNat)
  case atStart => exact ⟨0, rfl, Nat.zero_le _, fun h => absurd h (by omega), fun h => absurd h (by omega)⟩
  case round =>
    obtain ⟨k, rfl, hk, h1, h2⟩ := hrel
    have hc : k = 0 ∨ k = 1 ∨ k = 2 := by omega
    rcases hc with rfl | rfl | rfl
    · by_cases he : M.cmp1 p s = 0
      · have hz : (M.cmp1 p s != 0) = false := by simp [he]
        replace he := Lib.hid he
        clear h1 h2
        go_wp2_with (go_at_call 64; refine (cmp_int _ _ _).mono ?_; rintro e w' ⟨rfl, rfl⟩)
        go_round
        case rel => exact ⟨1, by go_num, by omega, fun _ => he.out, fun h => absurd h (by omega)⟩
        case measure => simp [intOf]
      · have hz : (M.cmp1 p s != 0) = true := by simp [he]
        have hfin := Lib.hid (show M.cmp1 p s = M.cmp2 p q s t by unfold M.cmp2; rw [if_neg he])
        clear h1 h2 he
        go_wp2_with (go_at_call 64; refine (cmp_int _ _ _).mono ?_; rintro e w' ⟨rfl, rfl⟩)
        go_ret
        exact ⟨ret_int hfin.out, rfl⟩
    · have h3 := Lib.hid (h1 (Nat.le_refl _))
      by_cases he : M.cmp1 q t = 0
      · have hz : (M.cmp1 q t != 0) = false := by simp [he]
        replace he := Lib.hid he
        clear h1 h2
        go_wp2_with (go_at_call 64; refine (cmp_int _ _ _).mono ?_; rintro e w' ⟨rfl, rfl⟩)
        go_round
        case rel => exact ⟨2, by go_num, by omega, fun _ => h3.out, fun _ => he.out⟩
        case measure => simp [intOf]
      · have hz : (M.cmp1 q t != 0) = true := by simp [he]
        have hfin := Lib.hid (show M.cmp1 q t = M.cmp2 p q s t by unfold M.cmp2; rw [if_pos h3.out])
        clear h1 h2 he
        go_wp2_with (go_at_call 64; refine (cmp_int _ _ _).mono ?_; rintro e w' ⟨rfl, rfl⟩)
        go_ret
        exact ⟨ret_int hfin.out, rfl⟩
    · have hfin := Lib.hid (show 0 = M.cmp2 p q s t by unfold M.cmp2; rw [if_pos (h1 (by omega)), h2 (by omega)])
      clear h1 h2
      go_wp2_with fail
      go_ret
      exact ⟨ret_int hfin.out, rfl⟩
end Go.Proofs.YtmainffjekjlnaaDoor
