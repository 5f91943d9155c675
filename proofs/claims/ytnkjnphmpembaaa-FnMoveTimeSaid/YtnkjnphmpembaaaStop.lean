/- Contracts of the stop distance. -/
import Derived.Test.YtnkjnphmpembaaaProfMath
import Derived.Test.YtnkjnphmpembaaaIn
namespace Go.Proofs.Ytnkjnphmpembaaa
open Go.ChangeShapes Go.WideShapes Go.ChangeAt Go.RowKit
set_option linter.unusedVariables false
/-- the stop distance, with its refusal -/
def M.stop (v r : Int) : Int := if (0 ≤ v ∧ v ≤ 200) ∧ (1 ≤ r ∧ r ≤ 50) then M.SD v r else -1
theorem M.stop_yes {v r : Int} (h : (0 ≤ v ∧ v ≤ 200) ∧ (1 ≤ r ∧ r ≤ 50)) : M.stop v r = M.SD v r := by unfold M.stop; rw [if_pos h]
theorem M.stop_no {v r : Int} (h : ¬ ((0 ≤ v ∧ v ≤ 200) ∧ (1 ≤ r ∧ r ≤ 50))) : M.stop v r = -1 := by unfold M.stop; rw [if_neg h]
/-- spec: after some rounds the speed is s and the sum n -/
def StopRel (v r s n : Int) : Prop := (0 ≤ s ∧ s ≤ v) ∧ 0 ≤ n ∧ n + M.SD s r = M.SD v r
theorem StopRel.step {v r s n : Int} (hv : v ≤ 200) (hr : 1 ≤ r) (h : StopRel v r s n) (hlt : r < s) : StopRel v r (s - r) (n + (s - r)) := by
  obtain ⟨⟨h1, h2⟩, h3, h4⟩ := h
  have := M.SD_pos s r hr (by omega) hlt
  exact ⟨⟨by omega, by omega⟩, by omega, by omega⟩
theorem StopRel.last {v r s n : Int} (hv : v ≤ 200) (hr : 1 ≤ r) (h : StopRel v r s n) (hlt : ¬ r < s) : n = M.SD v r := by
  obtain ⟨⟨h1, h2⟩, h3, h4⟩ := h
  have := M.SD_neg s r hr (by omega) (by omega)
  omega
theorem StopRel.bd {v r s n : Int} (hv : v ≤ 200) (hr : 1 ≤ r) (h : StopRel v r s n) : (0 ≤ s ∧ s ≤ 200) ∧ (0 ≤ n ∧ n ≤ 40000) := by
  obtain ⟨⟨h1, h2⟩, h3, h4⟩ := h
  have := M.SD_bd v r (by omega) hv
  have := M.SD_bd s r (by omega) (by omega)
  exact ⟨⟨by omega, by omega⟩, ⟨by omega, by omega⟩⟩
/-- impl: the next speed is s, the sum n -/
def StopRelI (v r s n : Int) : Prop := (-50 ≤ s ∧ s ≤ 200) ∧ (0 ≤ n ∧ n ≤ 40000) ∧ ((0 < s ∧ n + (s + M.SD s r) = M.SD v r) ∨ (s ≤ 0 ∧ n = M.SD v r))
theorem StopRelI.first {v r : Int} (h0 : 0 ≤ v) (hv : v ≤ 200) (hr : 1 ≤ r) (hr2 : r ≤ 50) : StopRelI v r (v - r) 0 := by
  refine ⟨⟨by omega, by omega⟩, ⟨by omega, by omega⟩, ?_⟩
  by_cases h : r < v
  · left; have := M.SD_pos v r hr hv h; exact ⟨by omega, by omega⟩
  · right; have := M.SD_neg v r hr hv (by omega); exact ⟨by omega, by omega⟩
theorem StopRelI.step {v r s n : Int} (hv : v ≤ 200) (hr : 1 ≤ r) (hr2 : r ≤ 50) (h : StopRelI v r s n) (hlt : 0 < s) : StopRelI v r (s - r) (n + s) := by
  obtain ⟨⟨h1, h2⟩, ⟨h3, h4⟩, h5⟩ := h
  have b1 := M.SD_bd v r (by omega) hv
  have b2 := M.SD_bd s r (by omega) (by omega)
  rcases h5 with ⟨_, h5⟩ | ⟨h5, _⟩
  · refine ⟨⟨by omega, by omega⟩, ⟨by omega, by omega⟩, ?_⟩
    by_cases h : r < s
    · left; have := M.SD_pos s r hr h2 h; exact ⟨by omega, by omega⟩
    · right; have := M.SD_neg s r hr h2 (by omega); exact ⟨by omega, by omega⟩
  · omega
theorem StopRelI.last {v r s n : Int} (h : StopRelI v r s n) (hlt : ¬ 0 < s) : n = M.SD v r := by
  obtain ⟨_, _, h5⟩ := h
  omega
theorem stop_out {v r : Int} (h : ¬ ((0 ≤ v ∧ v ≤ 200) ∧ (1 ≤ r ∧ r ≤ 50))) : (v < 0 ∨ 200 < v) ∨ ((0 ≤ v ∧ v ≤ 200) ∧ (r < 1 ∨ 50 < r)) := by omega
theorem spec_stop (v r : Int) (w : World) :
    Calls Try.prog 62 #[.int .i64 v, .int .i64 r] w fun e w' => e = .returned (.int .i64 (M.stop v r)) ∧ w = w' := by
  by_cases h : (0 ≤ v ∧ v ≤ 200) ∧ (1 ≤ r ∧ r ≤ 50)
  · have hfin := Lib.hid (M.stop_yes h)
    obtain ⟨⟨h1, h2⟩, ⟨h3, h4⟩⟩ := h
    go_enter Try.func62, Try.ntmps62
    go_wp2_with (go_at_call 43; refine (l1In_yes _ _ _ _ (by omega) (by omega)).mono ?_; rintro e w' ⟨rfl, rfl⟩)
    go_loop [0, 5] (fun s n => ∃ x y : Int, s = .int .i64 x ∧ n = .int .i64 y ∧ StopRel v r x y) (fun s _ => (intOf s).toNat)
    case atStart => exact ⟨v, 0, rfl, rfl, ⟨⟨h1, Int.le_refl _⟩, Int.le_refl _, by omega⟩⟩
    case round =>
      obtain ⟨x, y, rfl, rfl, hrel⟩ := hrel
      obtain ⟨⟨b1, b2⟩, ⟨b3, b4⟩⟩ := hrel.bd h2 h3
      by_cases hlt : r < x
      · have hs := Lib.hid (hrel.step h2 h3 hlt)
        obtain ⟨⟨b5, b6⟩, ⟨b7, b8⟩⟩ := hs.out.bd h2 h3
        clear hrel
        go_wp2
        go_round
        case rel => exact ⟨_, _, rfl, rfl, hs.out⟩
        case measure => simp [intOf]; omega
      · have hs := Lib.hid (hrel.last h2 h3 hlt)
        clear hrel
        go_wp2
        go_ret
        exact ⟨ret_int (by rw [hfin.out]; exact hs.out), rfl⟩
  · have hfin := Lib.hid (M.stop_no h)
    rcases stop_out h with h | ⟨⟨h1, h2⟩, h⟩
    · go_enter Try.func62, Try.ntmps62
      go_wp2_with (go_at_call 43; refine (l1In_no _ _ _ _ h).mono ?_; rintro e w' ⟨rfl, rfl⟩)
      go_ret
      exact ⟨ret_int hfin.out.symm, rfl⟩
    · go_enter Try.func62, Try.ntmps62
      go_wp2_with fail
      refine (l1In_yes _ _ _ _ h1 h2).mono ?_
      rintro e w' ⟨rfl, rfl⟩
      go_wp2_with fail
      refine (l1In_no _ _ _ _ h).mono ?_
      rintro e w' ⟨rfl, rfl⟩
      go_wp2_with fail
      go_ret
      exact ⟨ret_int hfin.out.symm, rfl⟩
theorem impl_stop (v r : Int) (w : World) :
    Calls Try.prog 64 #[.int .i64 v, .int .i64 r] w fun e w' => e = .returned (.int .i64 (M.stop v r)) ∧ w = w' := by
  by_cases h : (0 ≤ v ∧ v ≤ 200) ∧ (1 ≤ r ∧ r ≤ 50)
  · have hfin := Lib.hid (M.stop_yes h)
    obtain ⟨⟨h1, h2⟩, ⟨h3, h4⟩⟩ := h
    go_enter Try.func64, Try.ntmps64
    go_wp2_with (go_at_call 42; refine (within_yes _ _ _ _ (by omega) (by omega)).mono ?_; rintro e w' ⟨rfl, rfl⟩)
    go_loop [5, 6] (fun n s => ∃ x y : Int, s = .int .i64 x ∧ n = .int .i64 y ∧ StopRelI v r x y) (fun _ s => (intOf s).toNat)
    case atStart => exact ⟨_, _, rfl, rfl, StopRelI.first h1 h2 h3 h4⟩
    case round =>
      obtain ⟨x, y, rfl, rfl, hrel⟩ := hrel
      obtain ⟨⟨b1, b2⟩, ⟨b3, b4⟩, _⟩ := id hrel
      by_cases hlt : 0 < x
      · have hs := Lib.hid (hrel.step h2 h3 h4 hlt)
        obtain ⟨⟨b5, b6⟩, ⟨b7, b8⟩, _⟩ := hs.out
        clear hrel
        go_wp2
        go_round
        case rel => exact ⟨_, _, rfl, rfl, hs.out⟩
        case measure => simp [intOf]; omega
      · have hs := Lib.hid (hrel.last hlt)
        clear hrel
        go_wp2
        go_ret
        exact ⟨ret_int (by rw [hfin.out]; exact hs.out), rfl⟩
  · have hfin := Lib.hid (M.stop_no h)
    rcases stop_out h with h | ⟨⟨h1, h2⟩, h⟩
    · go_enter Try.func64, Try.ntmps64
      go_wp2_with (go_at_call 42; refine (within_no _ _ _ _ h).mono ?_; rintro e w' ⟨rfl, rfl⟩)
      go_ret
      exact ⟨ret_int hfin.out.symm, rfl⟩
    · go_enter Try.func64, Try.ntmps64
      go_wp2_with fail
      refine (within_yes _ _ _ _ h1 h2).mono ?_
      rintro e w' ⟨rfl, rfl⟩
      go_wp2_with fail
      refine (within_no _ _ _ _ h).mono ?_
      rintro e w' ⟨rfl, rfl⟩
      go_wp2_with fail
      go_ret
      exact ⟨ret_int hfin.out.symm, rfl⟩
end Go.Proofs.Ytnkjnphmpembaaa
