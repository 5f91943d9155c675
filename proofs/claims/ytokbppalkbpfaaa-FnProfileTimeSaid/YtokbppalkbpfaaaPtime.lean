/- Contracts of the time of a motion, in both packages. -/
import Derived.Test.YtokbppalkbpfaaaProf
namespace Go.Proofs.Ytokbppalkbpfaaa
open Go.ChangeShapes Go.WideShapes Go.ChangeAt Go.RowKit
set_option linter.unusedVariables false
/-- the number of steps, with its refusal -/
def M.ptime (d t r : Int) : Int := if (0 ≤ d ∧ d ≤ 5000) ∧ ((1 ≤ t ∧ t ≤ 200) ∧ (1 ≤ r ∧ r ≤ 50)) then ((M.prof d t r).length : Int) else -1
theorem M.ptime_yes {d t r : Int} (h : M.okProf d t r) : M.ptime d t r = ((M.prof d t r).length : Int) := by unfold M.ptime; exact if_pos h
theorem M.ptime_no {d t r : Int} (h : ¬ M.okProf d t r) : M.ptime d t r = -1 := by unfold M.ptime; exact if_neg h
set_option maxHeartbeats 1000000 in
theorem impl_ptime (d t r : Int) (w : World) :
    Calls Try.prog 25 #[.int .i64 d, .int .i64 t, .int .i64 r] w fun e w' => e = .returned (.int .i64 (M.ptime d t r)) ∧ Below w.heap.size w w' := by
  by_cases h : M.okProf d t r
  · have e0 := Lib.hid (M.ptime_yes h)
    have hlim := Lib.hid h.2
    obtain ⟨⟨a1, a2⟩, _⟩ := h
    have hlen := M.prof_len d t r
    go_enter Try.func25, Try.ntmps25
    go_wp2_with (first | (go_at_call 36; refine (within_yes _ _ _ _ (by omega) (by omega)).mono ?_; rintro e w' ⟨rfl, rfl⟩) | (go_at_call 37; refine (limits_yes _ _ _ hlim.out).mono ?_; rintro e w' ⟨rfl, rfl⟩))
    refine (impl_prof d t r _).mono ?_
    rintro e w1 ⟨v, rfl, ho, hb⟩
    obtain ⟨p, cap, rfl, _⟩ := ho.view
    clear ho
    go_wp2_with fail
    go_ret
    exact ⟨ret_int e0.out.symm, hb⟩
  · have e0 := Lib.hid (M.ptime_no h)
    rcases prof_out h with h | ⟨⟨a1, a2⟩, h⟩ | ⟨⟨a1, a2⟩, ⟨⟨a3, a4⟩, h⟩⟩
    · go_enter Try.func25, Try.ntmps25
      go_wp2_with (go_at_call 36; refine (within_no _ _ _ _ h).mono ?_; rintro e w' ⟨rfl, rfl⟩)
      go_ret
      exact ⟨ret_int e0.out.symm, Below.refl _ _⟩
    · have hl := Lib.hid (show ¬ ((1 ≤ t ∧ t ≤ 200) ∧ (1 ≤ r ∧ r ≤ 50)) by omega)
      go_enter Try.func25, Try.ntmps25
      go_wp2_with (first | (go_at_call 36; refine (within_yes _ _ _ _ a1 a2).mono ?_; rintro e w' ⟨rfl, rfl⟩) | (go_at_call 37; refine (limits_no _ _ _ hl.out).mono ?_; rintro e w' ⟨rfl, rfl⟩))
      go_ret
      exact ⟨ret_int e0.out.symm, Below.refl _ _⟩
    · have hl := Lib.hid (show ¬ ((1 ≤ t ∧ t ≤ 200) ∧ (1 ≤ r ∧ r ≤ 50)) by omega)
      go_enter Try.func25, Try.ntmps25
      go_wp2_with (first | (go_at_call 36; refine (within_yes _ _ _ _ a1 a2).mono ?_; rintro e w' ⟨rfl, rfl⟩) | (go_at_call 37; refine (limits_no _ _ _ hl.out).mono ?_; rintro e w' ⟨rfl, rfl⟩))
      go_ret
      exact ⟨ret_int e0.out.symm, Below.refl _ _⟩
set_option maxHeartbeats 1000000 in
theorem spec_ptime (d t r : Int) (w : World) :
    Calls Try.prog 24 #[.int .i64 d, .int .i64 t, .int .i64 r] w fun e w' => e = .returned (.int .i64 (M.ptime d t r)) ∧ Below w.heap.size w w' := by
  by_cases h : M.okProf d t r
  · have e0 := Lib.hid (M.ptime_yes h)
    obtain ⟨⟨a1, a2⟩, ⟨⟨a3, a4⟩, ⟨a5, a6⟩⟩⟩ := h
    have hlen := M.prof_len d t r
    go_enter Try.func24, Try.ntmps24
    go_wp2_with (first | (go_at_call 35; refine (l1In_yes _ _ _ _ (by omega) (by omega)).mono ?_; rintro e w' ⟨rfl, rfl⟩))
    refine (spec_prof d t r _).mono ?_
    rintro e w1 ⟨v, rfl, ho, hb⟩
    obtain ⟨p, cap, rfl, _⟩ := ho.view
    clear ho
    go_wp2_with fail
    go_ret
    exact ⟨ret_int e0.out.symm, hb⟩
  · have e0 := Lib.hid (M.ptime_no h)
    rcases prof_out h with h | ⟨⟨a1, a2⟩, h⟩ | ⟨⟨a1, a2⟩, ⟨⟨a3, a4⟩, h⟩⟩
    · go_enter Try.func24, Try.ntmps24
      go_wp2_with (go_at_call 35; refine (l1In_no _ _ _ _ h).mono ?_; rintro e w' ⟨rfl, rfl⟩)
      go_ret
      exact ⟨ret_int e0.out.symm, Below.refl _ _⟩
    · go_enter Try.func24, Try.ntmps24
      go_wp2_with fail
      refine (l1In_yes _ _ _ _ a1 a2).mono ?_
      rintro e w' ⟨rfl, rfl⟩
      go_wp2_with fail
      refine (l1In_no _ _ _ _ h).mono ?_
      rintro e w' ⟨rfl, rfl⟩
      go_wp2_with fail
      go_ret
      exact ⟨ret_int e0.out.symm, Below.refl _ _⟩
    · go_enter Try.func24, Try.ntmps24
      go_wp2_with fail
      refine (l1In_yes _ _ _ _ a1 a2).mono ?_
      rintro e w' ⟨rfl, rfl⟩
      go_wp2_with fail
      refine (l1In_yes _ _ _ _ a3 a4).mono ?_
      rintro e w' ⟨rfl, rfl⟩
      go_wp2_with fail
      refine (l1In_no _ _ _ _ h).mono ?_
      rintro e w' ⟨rfl, rfl⟩
      go_wp2_with fail
      go_ret
      exact ⟨ret_int e0.out.symm, Below.refl _ _⟩
end Go.Proofs.Ytokbppalkbpfaaa
