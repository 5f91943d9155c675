/- Contracts of the angle functions of both packages. -/
import Derived.Test.YtmainffjekjlnaaDoorRead
namespace Go.Proofs.YtmainffjekjlnaaDoor
open Go.ChangeShapes Go.WideShapes Go.ChangeAt Go.RowKit
set_option linter.unusedVariables false
namespace M
theorem tmod_pos (d k : Int) (h : 0 ≤ d) : d.tmod k = d % k := Int.tmod_eq_emod_of_nonneg h
theorem tmod_neg (d k : Int) (h : d ≤ 0) : d.tmod k = -((-d) % k) := by
  have := Int.neg_tmod (-d) k
  rw [Int.neg_neg] at this
  rw [this, Int.tmod_eq_emod_of_nonneg (by omega)]
theorem tm360 (d : Int) : (0 ≤ d ∧ d.tmod 360 = d % 360) ∨ (d < 0 ∧ d.tmod 360 = -((-d) % 360)) := by
  rcases Int.lt_or_le d 0 with h | h
  · exact .inr ⟨h, tmod_neg d 360 (by omega)⟩
  · exact .inl ⟨h, tmod_pos d 360 h⟩
theorem tm360_bd (d : Int) : -360 < d.tmod 360 ∧ d.tmod 360 < 360 := by rcases tm360 d with ⟨h, e⟩ | ⟨h, e⟩ <;> omega
theorem tm360_ge (d : Int) (h : 0 ≤ d.tmod 360) : d.tmod 360 = d % 360 := by rcases tm360 d with ⟨h, e⟩ | ⟨h, e⟩ <;> omega
theorem tm360_lt (d : Int) (h : d.tmod 360 < 0) : d.tmod 360 + 360 = d % 360 := by rcases tm360 d with ⟨h, e⟩ | ⟨h, e⟩ <;> omega
theorem tm360_mod (d : Int) : (d.tmod 360 + 360) % 360 = d % 360 := by rcases tm360 d with ⟨h, e⟩ | ⟨h, e⟩ <;> omega
def ab (a b : Int) : Int := min ((a - b) % 360) (360 - (a - b) % 360)
def tt (a b s : Int) : Int := if s < 0 ∨ 180 < s then -1 else if ab a b ≤ s then b % 360 else if (b - a) % 360 ≤ 180 then (a + s) % 360 else (a - s) % 360
theorem ab_bd (a b : Int) : 0 ≤ ab a b ∧ ab a b ≤ 180 := by unfold ab; omega
theorem ab_comm (a b : Int) : ab a b = ab b a := by unfold ab; omega
theorem ab_self (a : Int) : ab a a = 0 := by unfold ab; omega
theorem ab_opp (a b : Int) : ab a (b % 360 + 180) = 180 - ab a b := by unfold ab; omega
theorem ab_tri (a b c : Int) : ab a b ≤ ab a c + ab c b := by unfold ab; omega
theorem tt_far (a b s : Int) (h0 : 0 ≤ s) (h1 : s ≤ 180) : ab (tt a b s) b = max 0 (ab a b - s) := by unfold tt ab; omega
theorem tt_near (a b s : Int) (h0 : 0 ≤ s) (h1 : s ≤ 180) : ab a (tt a b s) = min (ab a b) s := by unfold tt ab; omega
theorem tt_180 (a b : Int) : tt a b 180 = b % 360 := by unfold tt ab; omega
theorem tt_bd (a b s : Int) (h0 : 0 ≤ s) (h1 : s ≤ 180) : 0 ≤ tt a b s ∧ tt a b s < 360 := by unfold tt ab; omega
theorem tt_out (a b s : Int) (h : s < 0 ∨ 180 < s) : tt a b s = -1 := by unfold tt; rw [if_pos h]
theorem tt_in (a b s : Int) (h : ¬ (s < 0 ∨ 180 < s)) (h2 : ab a b ≤ s) : tt a b s = b % 360 := by unfold tt; rw [if_neg h, if_pos h2]
theorem tt_up (a b s : Int) (h : ¬ (s < 0 ∨ 180 < s)) (h2 : s < ab a b) (h3 : (b - a) % 360 ≤ 180) : tt a b s = (a + s) % 360 := by unfold tt; rw [if_neg h, if_neg (by omega), if_pos h3]
theorem tt_down (a b s : Int) (h : ¬ (s < 0 ∨ 180 < s)) (h2 : s < ab a b) (h3 : 180 < (b - a) % 360) : tt a b s = (a - s) % 360 := by unfold tt; rw [if_neg h, if_neg (by omega), if_neg (by omega)]
end M
theorem spec_deg (d : Int) (w : World) :
    Calls Tryd.prog 73 #[.int .i64 d] w fun e w' => e = .returned (.int .i64 (d % 360)) ∧ w = w' := by
  obtain ⟨h1, h2⟩ := M.tm360_bd d
  go_enter Tryd.func73, Tryd.ntmps73
  go_wp2
  · go_ret
    exact ⟨ret_int (M.tm360_lt d (by assumption)), rfl⟩
  · go_ret
    exact ⟨ret_int (M.tm360_ge d (by assumption)), rfl⟩
theorem impl_deg (d : Int) (w : World) :
    Calls Tryd.prog 46 #[.int .i64 d] w fun e w' => e = .returned (.int .i64 (d % 360)) ∧ w = w' := by
  obtain ⟨h1, h2⟩ := M.tm360_bd d
  go_enter Tryd.func46, Tryd.ntmps46
  go_wp2
  go_ret
  exact ⟨ret_int (M.tm360_mod d), rfl⟩
theorem l1In_yes (n lo hi : Int) (w : World) (h1 : lo ≤ n) (h2 : n ≤ hi) : Calls Tryd.prog 53 #[.int .i64 n, .int .i64 lo, .int .i64 hi] w fun e w' => e = .returned (.bool true) ∧ w = w' := by
  go_enter Tryd.func53, Tryd.ntmps53
  go_wp2
  go_ret
  exact ⟨rfl, rfl⟩
theorem l1In_no (n lo hi : Int) (w : World) (h1 : n < lo ∨ hi < n) : Calls Tryd.prog 53 #[.int .i64 n, .int .i64 lo, .int .i64 hi] w fun e w' => e = .returned (.bool false) ∧ w = w' := by
  by_cases h : n < lo
  · go_enter Tryd.func53, Tryd.ntmps53
    go_wp2
    go_ret
    exact ⟨rfl, rfl⟩
  · have h2 : hi < n := by omega
    go_enter Tryd.func53, Tryd.ntmps53
    go_wp2
    go_ret
    exact ⟨ret_bool (by simp; omega), rfl⟩
theorem within_yes (n lo hi : Int) (w : World) (h1 : lo ≤ n) (h2 : n ≤ hi) : Calls Tryd.prog 51 #[.int .i64 n, .int .i64 lo, .int .i64 hi] w fun e w' => e = .returned (.bool true) ∧ w = w' := by
  go_enter Tryd.func51, Tryd.ntmps51
  go_wp2
  go_ret
  exact ⟨rfl, rfl⟩
theorem within_no (n lo hi : Int) (w : World) (h1 : n < lo ∨ hi < n) : Calls Tryd.prog 51 #[.int .i64 n, .int .i64 lo, .int .i64 hi] w fun e w' => e = .returned (.bool false) ∧ w = w' := by
  by_cases h : n < lo
  · go_enter Tryd.func51, Tryd.ntmps51
    go_wp2
    go_ret
    exact ⟨rfl, rfl⟩
  · have h2 : hi < n := by omega
    go_enter Tryd.func51, Tryd.ntmps51
    go_wp2
    go_ret
    exact ⟨ret_bool (by simp; omega), rfl⟩
end Go.Proofs.YtmainffjekjlnaaDoor
