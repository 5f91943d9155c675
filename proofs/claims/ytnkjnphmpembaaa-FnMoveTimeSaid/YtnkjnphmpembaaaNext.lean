/- Contracts of the next speed. -/
import Derived.Test.YtnkjnphmpembaaaStop
namespace Go.Proofs.Ytnkjnphmpembaaa
open Go.ChangeShapes Go.WideShapes Go.ChangeAt Go.RowKit
set_option linter.unusedVariables false
def M.okIn (s d t r : Int) : Prop := ((0 ≤ s ∧ s ≤ 200) ∧ (0 ≤ d ∧ d ≤ 5000)) ∧ ((1 ≤ t ∧ t ≤ 200) ∧ (1 ≤ r ∧ r ≤ 50))
/-- the next speed, with its refusal -/
def M.next (s d t r : Int) : Int := if ((0 ≤ s ∧ s ≤ 200) ∧ (0 ≤ d ∧ d ≤ 5000)) ∧ ((1 ≤ t ∧ t ≤ 200) ∧ (1 ≤ r ∧ r ≤ 50)) then M.NS s d t r else -1
theorem M.next_yes {s d t r : Int} (h : M.okIn s d t r) : M.next s d t r = M.NS s d t r := by unfold M.next; exact if_pos h
theorem M.next_no {s d t r : Int} (h : ¬ M.okIn s d t r) : M.next s d t r = -1 := by unfold M.next; exact if_neg h
/-- after some rounds the speed is v: what is left to try gives the same -/
def NextRel (s d t r v : Int) : Prop := (0 ≤ v ∧ v ≤ 200) ∧ M.nsd 200 v d r = M.NS s d t r
theorem NextRel.first {s d t r : Int} (h : M.okIn s d t r) : NextRel s d t r (min t (s + r)) := by
  obtain ⟨⟨⟨a1, a2⟩, _⟩, ⟨⟨a3, a4⟩, ⟨a5, a6⟩⟩⟩ := h
  exact ⟨⟨by omega, by omega⟩, rfl⟩
theorem NextRel.pos {s d t r v : Int} (ho : M.okIn s d t r) (h : NextRel s d t r v) (hlt : d < v + M.SD v r) : 0 < v := by
  obtain ⟨⟨_, ⟨a1, a2⟩⟩, ⟨_, ⟨a5, a6⟩⟩⟩ := ho
  obtain ⟨⟨h1, h2⟩, h3⟩ := h
  rcases Int.lt_or_le 0 v with h4 | h4
  · exact h4
  · have e : v = 0 := by omega
    subst e
    rw [M.SD_neg 0 r a5 (by omega) (by omega)] at hlt; omega
theorem NextRel.step {s d t r v : Int} (ho : M.okIn s d t r) (h : NextRel s d t r v) (hlt : d < v + M.SD v r) : NextRel s d t r (v - 1) := by
  have hp := h.pos ho hlt
  obtain ⟨⟨_, ⟨a1, a2⟩⟩, ⟨_, ⟨a5, a6⟩⟩⟩ := ho
  obtain ⟨⟨h1, h2⟩, h3⟩ := h
  refine ⟨⟨by omega, by omega⟩, ?_⟩
  rw [← h3]
  show M.nsd 200 (v - 1) d r = if d < v + M.SD v r then M.nsd 199 (v - 1) d r else v
  rw [if_pos hlt]
  exact M.nsd_fuel 200 199 (v - 1) d r a5 (by omega) a1 (by omega) (by omega) (by omega)
theorem NextRel.last {s d t r v : Int} (h : NextRel s d t r v) (hlt : ¬ d < v + M.SD v r) : v = M.NS s d t r := by
  obtain ⟨⟨h1, h2⟩, h3⟩ := h
  rw [← h3]
  show v = if d < v + M.SD v r then M.nsd 199 (v - 1) d r else v
  rw [if_neg hlt]
theorem limits_yes (t r : Int) (w : World) (h : (1 ≤ t ∧ t ≤ 200) ∧ (1 ≤ r ∧ r ≤ 50)) :
    Calls Try.prog 54 #[.int .i64 t, .int .i64 r] w fun e w' => e = .returned (.bool true) ∧ w = w' := by
  obtain ⟨⟨h1, h2⟩, ⟨h3, h4⟩⟩ := h
  go_enter Try.func54, Try.ntmps54
  go_wp2_with (go_at_call 42; refine (within_yes _ _ _ _ (by omega) (by omega)).mono ?_; rintro e w' ⟨rfl, rfl⟩)
  go_ret
  exact ⟨rfl, rfl⟩
theorem limits_no (t r : Int) (w : World) (h : ¬ ((1 ≤ t ∧ t ≤ 200) ∧ (1 ≤ r ∧ r ≤ 50))) :
    Calls Try.prog 54 #[.int .i64 t, .int .i64 r] w fun e w' => e = .returned (.bool false) ∧ w = w' := by
  by_cases h1 : 1 ≤ t ∧ t ≤ 200
  · have h2 : r < 1 ∨ 50 < r := by omega
    obtain ⟨h3, h4⟩ := h1
    go_enter Try.func54, Try.ntmps54
    go_wp2_with fail
    refine (within_yes _ _ _ _ h3 h4).mono ?_
    rintro e w' ⟨rfl, rfl⟩
    go_wp2_with fail
    refine (within_no _ _ _ _ h2).mono ?_
    rintro e w' ⟨rfl, rfl⟩
    go_wp2_with fail
    go_ret
    exact ⟨rfl, rfl⟩
  · have h2 : t < 1 ∨ 200 < t := by omega
    go_enter Try.func54, Try.ntmps54
    go_wp2_with fail
    refine (within_no _ _ _ _ h2).mono ?_
    rintro e w' ⟨rfl, rfl⟩
    go_wp2_with fail
    go_ret
    exact ⟨rfl, rfl⟩
theorem next_out {s d t r : Int} (h : ¬ (((0 ≤ s ∧ s ≤ 200) ∧ (0 ≤ d ∧ d ≤ 5000)) ∧ ((1 ≤ t ∧ t ≤ 200) ∧ (1 ≤ r ∧ r ≤ 50)))) :
    (s < 0 ∨ 200 < s) ∨ ((0 ≤ s ∧ s ≤ 200) ∧ (d < 0 ∨ 5000 < d)) ∨ ((0 ≤ s ∧ s ≤ 200) ∧ (0 ≤ d ∧ d ≤ 5000) ∧ (t < 1 ∨ 200 < t)) ∨ ((0 ≤ s ∧ s ≤ 200) ∧ (0 ≤ d ∧ d ≤ 5000) ∧ (1 ≤ t ∧ t ≤ 200) ∧ (r < 1 ∨ 50 < r)) := by omega
set_option maxHeartbeats 1000000 in
theorem spec_next (s d t r : Int) (w : World) :
    Calls Try.prog 58 #[.int .i64 s, .int .i64 d, .int .i64 t, .int .i64 r] w fun e w' => e = .returned (.int .i64 (M.next s d t r)) ∧ w = w' := by
  by_cases h : M.okIn s d t r
  · have hfin := Lib.hid (M.next_yes h)
    have ho := Lib.hid h
    have hf := Lib.hid (NextRel.first h)
    obtain ⟨⟨⟨a1, a2⟩, ⟨a3, a4⟩⟩, ⟨⟨a5, a6⟩, ⟨a7, a8⟩⟩⟩ := h
    obtain ⟨⟨m1, m2⟩, _⟩ := hf.out
    by_cases hmin : t ≤ s + r
    · have em : min t (s + r) = t := by omega
      rw [em] at hf m1 m2
      clear em
      go_enter Try.func58, Try.ntmps58
      go_wp2_with (first | (go_at_call 43; refine (l1In_yes _ _ _ _ (by omega) (by omega)).mono ?_; rintro e w' ⟨rfl, rfl⟩))
      go_loop [9] (fun x => ∃ v : Int, x = .int .i64 v ∧ NextRel s d t r v) (fun x => (intOf x).toNat)
      case atStart => exact ⟨_, rfl, hf.out⟩
      case round =>
        obtain ⟨v, rfl, hrel⟩ := hrel
        obtain ⟨⟨b1, b2⟩, _⟩ := id hrel
        have e1 : M.stop v r = M.SD v r := M.stop_yes ⟨⟨b1, b2⟩, ⟨a7, a8⟩⟩
        obtain ⟨b3, b4⟩ := M.SD_bd v r (by omega) b2
        by_cases hlt : d < v + M.SD v r
        · have hp := hrel.pos ho.out hlt
          have hs := Lib.hid (hrel.step ho.out hlt)
          clear hrel
          go_wp2_with (go_at_call 62; refine (spec_stop _ _ _).mono ?_; rintro e w' ⟨rfl, rfl⟩)
          go_round
          case rel => exact ⟨_, rfl, hs.out⟩
          case measure => simp [intOf]; omega
        · have hs := Lib.hid (hrel.last hlt)
          clear hrel
          by_cases hp : 0 < v
          · go_wp2_with (go_at_call 62; refine (spec_stop _ _ _).mono ?_; rintro e w' ⟨rfl, rfl⟩)
            go_ret
            exact ⟨ret_int (by rw [hfin.out]; exact hs.out), rfl⟩
          · go_wp2_with (go_at_call 62; refine (spec_stop _ _ _).mono ?_; rintro e w' ⟨rfl, rfl⟩)
            go_ret
            exact ⟨ret_int (by rw [hfin.out]; exact hs.out), rfl⟩
    · have em : min t (s + r) = s + r := by omega
      rw [em] at hf m1 m2
      clear em
      go_enter Try.func58, Try.ntmps58
      go_wp2_with (first | (go_at_call 43; refine (l1In_yes _ _ _ _ (by omega) (by omega)).mono ?_; rintro e w' ⟨rfl, rfl⟩))
      go_loop [9] (fun x => ∃ v : Int, x = .int .i64 v ∧ NextRel s d t r v) (fun x => (intOf x).toNat)
      case atStart => exact ⟨_, rfl, hf.out⟩
      case round =>
        obtain ⟨v, rfl, hrel⟩ := hrel
        obtain ⟨⟨b1, b2⟩, _⟩ := id hrel
        have e1 : M.stop v r = M.SD v r := M.stop_yes ⟨⟨b1, b2⟩, ⟨a7, a8⟩⟩
        obtain ⟨b3, b4⟩ := M.SD_bd v r (by omega) b2
        by_cases hlt : d < v + M.SD v r
        · have hp := hrel.pos ho.out hlt
          have hs := Lib.hid (hrel.step ho.out hlt)
          clear hrel
          go_wp2_with (go_at_call 62; refine (spec_stop _ _ _).mono ?_; rintro e w' ⟨rfl, rfl⟩)
          go_round
          case rel => exact ⟨_, rfl, hs.out⟩
          case measure => simp [intOf]; omega
        · have hs := Lib.hid (hrel.last hlt)
          clear hrel
          by_cases hp : 0 < v
          · go_wp2_with (go_at_call 62; refine (spec_stop _ _ _).mono ?_; rintro e w' ⟨rfl, rfl⟩)
            go_ret
            exact ⟨ret_int (by rw [hfin.out]; exact hs.out), rfl⟩
          · go_wp2_with (go_at_call 62; refine (spec_stop _ _ _).mono ?_; rintro e w' ⟨rfl, rfl⟩)
            go_ret
            exact ⟨ret_int (by rw [hfin.out]; exact hs.out), rfl⟩
  · have hfin := Lib.hid (M.next_no h)
    unfold M.okIn at h
    rcases next_out h with h | ⟨⟨a1, a2⟩, h⟩ | ⟨⟨a1, a2⟩, ⟨a3, a4⟩, h⟩ | ⟨⟨a1, a2⟩, ⟨a3, a4⟩, ⟨a5, a6⟩, h⟩
    · go_enter Try.func58, Try.ntmps58
      go_wp2_with fail
      refine (l1In_no _ _ _ _ h).mono ?_
      rintro e w' ⟨rfl, rfl⟩
      go_wp2_with fail
      go_ret
      exact ⟨ret_int hfin.out.symm, rfl⟩
    · go_enter Try.func58, Try.ntmps58
      go_wp2_with fail
      refine (l1In_yes _ _ _ _ a1 a2).mono ?_
      rintro e w' ⟨rfl, rfl⟩
      go_wp2_with fail
      refine (l1In_no _ _ _ _ h).mono ?_
      rintro e w' ⟨rfl, rfl⟩
      go_wp2_with fail
      go_ret
      exact ⟨ret_int hfin.out.symm, rfl⟩
    · go_enter Try.func58, Try.ntmps58
      go_wp2_with fail
      refine (l1In_yes _ _ _ _ a1 a2).mono ?_
      rintro e w' ⟨rfl, rfl⟩
      go_wp2_with fail
      refine (l1In_yes _ _ _ _ a3 a4).mono ?_
      rintro e w' ⟨rfl, rfl⟩
      go_wp2_with fail
      refine (l1In_no _ _ _ _ h).mono ?_
      rintro e w' ⟨rfl, rfl⟩
      go_wp2_with fail
      go_ret
      exact ⟨ret_int hfin.out.symm, rfl⟩
    · go_enter Try.func58, Try.ntmps58
      go_wp2_with fail
      refine (l1In_yes _ _ _ _ a1 a2).mono ?_
      rintro e w' ⟨rfl, rfl⟩
      go_wp2_with fail
      refine (l1In_yes _ _ _ _ a3 a4).mono ?_
      rintro e w' ⟨rfl, rfl⟩
      go_wp2_with fail
      refine (l1In_yes _ _ _ _ a5 a6).mono ?_
      rintro e w' ⟨rfl, rfl⟩
      go_wp2_with fail
      refine (l1In_no _ _ _ _ h).mono ?_
      rintro e w' ⟨rfl, rfl⟩
      go_wp2_with fail
      go_ret
      exact ⟨ret_int hfin.out.symm, rfl⟩
set_option maxHeartbeats 1000000 in
theorem impl_next (s d t r : Int) (w : World) :
    Calls Try.prog 63 #[.int .i64 s, .int .i64 d, .int .i64 t, .int .i64 r] w fun e w' => e = .returned (.int .i64 (M.next s d t r)) ∧ w = w' := by
  by_cases h : M.okIn s d t r
  · have hfin := Lib.hid (M.next_yes h)
    have ho := Lib.hid h
    have hf := Lib.hid (NextRel.first h)
    obtain ⟨⟨⟨a1, a2⟩, ⟨a3, a4⟩⟩, ⟨⟨a5, a6⟩, ⟨a7, a8⟩⟩⟩ := h
    obtain ⟨⟨m1, m2⟩, _⟩ := hf.out
    by_cases hmin : t ≤ s + r
    · have em : min t (s + r) = t := by omega
      rw [em] at hf m1 m2
      clear em
      go_enter Try.func63, Try.ntmps63
      go_wp2_with (first | (go_at_call 42; refine (within_yes _ _ _ _ (by omega) (by omega)).mono ?_; rintro e w' ⟨rfl, rfl⟩) | (go_at_call 54; refine (limits_yes _ _ _ ⟨⟨by omega, by omega⟩, ⟨by omega, by omega⟩⟩).mono ?_; rintro e w' ⟨rfl, rfl⟩))
      go_loop [9] (fun x => ∃ v : Int, x = .int .i64 v ∧ NextRel s d t r v) (fun x => (intOf x).toNat)
      case atStart => exact ⟨_, rfl, hf.out⟩
      case round =>
        obtain ⟨v, rfl, hrel⟩ := hrel
        obtain ⟨⟨b1, b2⟩, _⟩ := id hrel
        have e1 : M.stop v r = M.SD v r := M.stop_yes ⟨⟨b1, b2⟩, ⟨a7, a8⟩⟩
        obtain ⟨b3, b4⟩ := M.SD_bd v r (by omega) b2
        by_cases hlt : d < v + M.SD v r
        · have hp := hrel.pos ho.out hlt
          have hs := Lib.hid (hrel.step ho.out hlt)
          clear hrel
          go_wp2_with (go_at_call 64; refine (impl_stop _ _ _).mono ?_; rintro e w' ⟨rfl, rfl⟩)
          go_round
          case rel => exact ⟨_, rfl, hs.out⟩
          case measure => simp [intOf]; omega
        · have hs := Lib.hid (hrel.last hlt)
          clear hrel
          by_cases hp : 0 < v
          · go_wp2_with (go_at_call 64; refine (impl_stop _ _ _).mono ?_; rintro e w' ⟨rfl, rfl⟩)
            go_ret
            exact ⟨ret_int (by rw [hfin.out]; exact hs.out), rfl⟩
          · go_wp2_with (go_at_call 64; refine (impl_stop _ _ _).mono ?_; rintro e w' ⟨rfl, rfl⟩)
            go_ret
            exact ⟨ret_int (by rw [hfin.out]; exact hs.out), rfl⟩
    · have em : min t (s + r) = s + r := by omega
      rw [em] at hf m1 m2
      clear em
      go_enter Try.func63, Try.ntmps63
      go_wp2_with (first | (go_at_call 42; refine (within_yes _ _ _ _ (by omega) (by omega)).mono ?_; rintro e w' ⟨rfl, rfl⟩) | (go_at_call 54; refine (limits_yes _ _ _ ⟨⟨by omega, by omega⟩, ⟨by omega, by omega⟩⟩).mono ?_; rintro e w' ⟨rfl, rfl⟩))
      go_loop [9] (fun x => ∃ v : Int, x = .int .i64 v ∧ NextRel s d t r v) (fun x => (intOf x).toNat)
      case atStart => exact ⟨_, rfl, hf.out⟩
      case round =>
        obtain ⟨v, rfl, hrel⟩ := hrel
        obtain ⟨⟨b1, b2⟩, _⟩ := id hrel
        have e1 : M.stop v r = M.SD v r := M.stop_yes ⟨⟨b1, b2⟩, ⟨a7, a8⟩⟩
        obtain ⟨b3, b4⟩ := M.SD_bd v r (by omega) b2
        by_cases hlt : d < v + M.SD v r
        · have hp := hrel.pos ho.out hlt
          have hs := Lib.hid (hrel.step ho.out hlt)
          clear hrel
          go_wp2_with (go_at_call 64; refine (impl_stop _ _ _).mono ?_; rintro e w' ⟨rfl, rfl⟩)
          go_round
          case rel => exact ⟨_, rfl, hs.out⟩
          case measure => simp [intOf]; omega
        · have hs := Lib.hid (hrel.last hlt)
          clear hrel
          by_cases hp : 0 < v
          · go_wp2_with (go_at_call 64; refine (impl_stop _ _ _).mono ?_; rintro e w' ⟨rfl, rfl⟩)
            go_ret
            exact ⟨ret_int (by rw [hfin.out]; exact hs.out), rfl⟩
          · go_wp2_with (go_at_call 64; refine (impl_stop _ _ _).mono ?_; rintro e w' ⟨rfl, rfl⟩)
            go_ret
            exact ⟨ret_int (by rw [hfin.out]; exact hs.out), rfl⟩
  · have hfin := Lib.hid (M.next_no h)
    unfold M.okIn at h
    rcases next_out h with h | ⟨⟨a1, a2⟩, h⟩ | ⟨⟨a1, a2⟩, ⟨a3, a4⟩, h⟩ | ⟨⟨a1, a2⟩, ⟨a3, a4⟩, ⟨a5, a6⟩, h⟩
    · go_enter Try.func63, Try.ntmps63
      go_wp2_with fail
      refine (within_no _ _ _ _ h).mono ?_
      rintro e w' ⟨rfl, rfl⟩
      go_wp2_with fail
      go_ret
      exact ⟨ret_int hfin.out.symm, rfl⟩
    · go_enter Try.func63, Try.ntmps63
      go_wp2_with fail
      refine (within_yes _ _ _ _ a1 a2).mono ?_
      rintro e w' ⟨rfl, rfl⟩
      go_wp2_with fail
      refine (within_no _ _ _ _ h).mono ?_
      rintro e w' ⟨rfl, rfl⟩
      go_wp2_with fail
      go_ret
      exact ⟨ret_int hfin.out.symm, rfl⟩
    · go_enter Try.func63, Try.ntmps63
      go_wp2_with fail
      refine (within_yes _ _ _ _ a1 a2).mono ?_
      rintro e w' ⟨rfl, rfl⟩
      go_wp2_with fail
      refine (within_yes _ _ _ _ a3 a4).mono ?_
      rintro e w' ⟨rfl, rfl⟩
      go_wp2_with fail
      refine (limits_no _ _ _ (by omega)).mono ?_
      rintro e w' ⟨rfl, rfl⟩
      go_wp2_with fail
      go_ret
      exact ⟨ret_int hfin.out.symm, rfl⟩
    · go_enter Try.func63, Try.ntmps63
      go_wp2_with fail
      refine (within_yes _ _ _ _ a1 a2).mono ?_
      rintro e w' ⟨rfl, rfl⟩
      go_wp2_with fail
      refine (within_yes _ _ _ _ a3 a4).mono ?_
      rintro e w' ⟨rfl, rfl⟩
      go_wp2_with fail
      refine (limits_no _ _ _ (by omega)).mono ?_
      rintro e w' ⟨rfl, rfl⟩
      go_wp2_with fail
      go_ret
      exact ⟨ret_int hfin.out.symm, rfl⟩
end Go.Proofs.Ytnkjnphmpembaaa
