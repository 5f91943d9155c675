/- Contracts of the arm's validity. -/
import Derived.Test.YtmainffjekjlnaaDoorAngle
import Derived.Test.YtmainffjekjlnaaDoorMem
namespace Go.Proofs.YtmainffjekjlnaaDoor
open Go.ChangeShapes Go.WideShapes Go.ChangeAt Go.RowKit
set_option linter.unusedVariables false
def M.linkB (x a b : Int) : Bool := decide ((1 ≤ x ∧ x ≤ 500) ∧ (-180 ≤ a ∧ a ≤ 180) ∧ (a ≤ b ∧ b ≤ 180))
def M.armB (l lo hi : List Int) : Bool := decide ((1 ≤ l.length ∧ l.length ≤ 4) ∧ lo.length = l.length ∧ hi.length = l.length) && (List.range l.length).all fun k => M.linkB (l.getD k 0) (lo.getD k 0) (hi.getD k 0)
theorem M.armB_len {l lo hi : List Int} (h : ¬ ((1 ≤ l.length ∧ l.length ≤ 4) ∧ lo.length = l.length ∧ hi.length = l.length)) : false = M.armB l lo hi := by unfold M.armB; rw [decide_eq_false h]; rfl
theorem M.armB_bad {l lo hi : List Int} {k : Nat} (hk : k < l.length) (h : M.linkB (l.getD k 0) (lo.getD k 0) (hi.getD k 0) = false) : false = M.armB l lo hi := by
  symm; unfold M.armB; rw [Bool.and_eq_false_iff]; right; rw [List.all_eq_false]; exact ⟨k, by simpa using hk, by rw [h]; exact Bool.false_ne_true⟩
theorem M.armB_ok {l lo hi : List Int} (h : (1 ≤ l.length ∧ l.length ≤ 4) ∧ lo.length = l.length ∧ hi.length = l.length) (ha : ∀ k, k < l.length → M.linkB (l.getD k 0) (lo.getD k 0) (hi.getD k 0) = true) : true = M.armB l lo hi := by
  symm; unfold M.armB; rw [decide_eq_true h, Bool.true_and, List.all_eq_true]; intro k hk; exact ha k (by simpa using hk)
theorem quiet_same {P : Program} {f : FuncId} {args : Array Value} {w : World} {v : Value} (h : Calls P f args w fun e w' => e = .returned v ∧ w = w') : Calls P f args w fun e w' => e = .returned v ∧ w' = w := h.mono fun _ _ ⟨a, b⟩ => ⟨a, b.symm⟩
set_option maxHeartbeats 2000000 in
theorem impl_arm (a1 a2 a3 : Option Addr) (n1 c1 n2 c2 n3 c3 : Nat) (l lo hi : List Int) (w : World) (h1 : l.length = n1) (h2 : lo.length = n2) (h3 : hi.length = n3) (hm : n1 ≤ 1000000000 ∧ n2 ≤ 1000000000 ∧ n3 ≤ 1000000000) (hr : ArmAt w w.heap.size a1 a2 a3 l lo hi) :
    Calls Tryd.prog 36 #[.agg #[.slice a1 n1 c1, .slice a2 n2 c2, .slice a3 n3 c3]] w fun e w' => e = .returned (.bool (M.armB l lo hi)) ∧ Below w.heap.size w w' := by
  by_cases hl : (1 ≤ n1 ∧ n1 ≤ 4) ∧ n2 = n1 ∧ n3 = n1
  · obtain ⟨⟨g1, g2⟩, rfl, rfl⟩ := hl
    obtain ⟨b1, o1, rfl, hb1, r1⟩ := hr.1.at (by intro e; rw [e] at h1; simp at h1; omega)
    obtain ⟨b2, o2, rfl, hb2, r2⟩ := hr.2.1.at (by intro e; rw [e] at h2; simp at h2; omega)
    obtain ⟨b3, o3, rfl, hb3, r3⟩ := hr.2.2.at (by intro e; rw [e] at h3; simp at h3; omega)
    clear hr
    replace r1 := Lib.hid r1
    replace r2 := Lib.hid r2
    replace r3 := Lib.hid r3
    go_enter Tryd.func36, Tryd.ntmps36
    go_wp2_with (first | (go_at_call 51; refine (within_yes _ _ _ _ (by omega) (by omega)).mono ?_; rintro e w' ⟨rfl, rfl⟩) | (go_at_call 51; refine (within_no _ _ _ _ (by omega)).mono ?_; rintro e w' ⟨rfl, rfl⟩))
    go_loopw [26] (fun i wr => ∃ k : Nat, i = .int .i64 k ∧ k ≤ n3 ∧ (∀ j, j < k → M.linkB (l.getD j 0) (lo.getD j 0) (hi.getD j 0) = true) ∧ (wr.cell? ⟨w.heap.size, 0, none⟩ = some (.slice (some ⟨b1, o1, none⟩) n3 c1) ∧ wr.cell? ⟨w.heap.size, 1, none⟩ = some (.slice (some ⟨b2, o2, none⟩) n3 c2) ∧ wr.cell? ⟨w.heap.size, 2, none⟩ = some (.slice (some ⟨b3, o3, none⟩) n3 c3)) ∧ Below w.heap.size w wr) (fun i _ => n3 - (intOf i).toNat)
    case atStart => exact ⟨0, rfl, Nat.zero_le _, fun j hj => absurd hj (Nat.not_lt_zero _), ⟨by simp [go_sem], by simp [go_sem], by simp [go_sem]⟩, (Below.refl _ _).alloc (Nat.le_refl _) _⟩
    case round =>
      obtain ⟨k, rfl, hk, hall, ⟨d1, d2, d3⟩, hb⟩ := hrel
      replace hb := Lib.hid hb
      replace hall := Lib.hid hall
      by_cases hlt : k < n3
      · have x1 := r1.out k (by omega)
        rw [← hb.out.cell (p := ⟨b1, o1 + k, none⟩) hb1] at x1
        have x2 := r2.out k (by omega)
        rw [← hb.out.cell (p := ⟨b2, o2 + k, none⟩) hb2] at x2
        have x3 := r3.out k (by omega)
        rw [← hb.out.cell (p := ⟨b3, o3 + k, none⟩) hb3] at x3
        have hk2 : (k : Int) < (n3 : Int) := by omega
        have hbad := Lib.hid (fun h => M.armB_bad (l := l) (lo := lo) (hi := hi) (k := k) (by omega) h)
        have hgood := Lib.hid (show M.linkB (l.getD k 0) (lo.getD k 0) (hi.getD k 0) = true → ∀ j, j < k + 1 → M.linkB (l.getD j 0) (lo.getD j 0) (hi.getD j 0) = true from fun h j hj => by (rcases Nat.lt_or_ge j k with e | e; exact hall.out j e; obtain rfl : j = k := (by omega); exact h))
        generalize l.getD k 0 = x at *
        generalize lo.getD k 0 = y at *
        generalize hi.getD k 0 = z at *
        clear hall r1 r2 r3
        by_cases q1 : 1 ≤ x ∧ x ≤ 500
        · by_cases q2 : -180 ≤ y ∧ y ≤ 180
          · by_cases q3 : y ≤ z ∧ z ≤ 180
            · replace hgood := Lib.hid (hgood.out (by simp [M.linkB]; omega))
              clear hbad
              go_wp2_with fail
              go_quiet (first | (go_at_call 51; refine Calls.quiet_of_same (quiet_same (within_yes _ _ _ _ (by omega) (by omega)))) | (go_at_call 51; refine Calls.quiet_of_same (quiet_same (within_no _ _ _ _ (by omega)))))
              go_wp2_with fail
              go_roundw
              case rel => exact ⟨k + 1, by go_num, by omega, hgood.out, ⟨d1, d2, d3⟩, ⟨hb.out.os, hb.out.tape, hb.out.output, hb.out.size, hb.out.block⟩⟩
              case measure => simp [intOf]; omega
            · replace hbad := Lib.hid (hbad.out (by simp [M.linkB]; omega))
              clear hgood
              go_wp2_with fail
              go_quiet (first | (go_at_call 51; refine Calls.quiet_of_same (quiet_same (within_yes _ _ _ _ (by omega) (by omega)))) | (go_at_call 51; refine Calls.quiet_of_same (quiet_same (within_no _ _ _ _ (by omega)))))
              go_wp2_with fail
              go_ret
              exact ⟨ret_bool hbad.out, ⟨hb.out.os, hb.out.tape, hb.out.output, hb.out.size, hb.out.block⟩⟩
          · replace hbad := Lib.hid (hbad.out (by simp [M.linkB]; omega))
            clear hgood
            go_wp2_with fail
            go_quiet (first | (go_at_call 51; refine Calls.quiet_of_same (quiet_same (within_yes _ _ _ _ (by omega) (by omega)))) | (go_at_call 51; refine Calls.quiet_of_same (quiet_same (within_no _ _ _ _ (by omega)))))
            go_wp2_with fail
            go_ret
            exact ⟨ret_bool hbad.out, ⟨hb.out.os, hb.out.tape, hb.out.output, hb.out.size, hb.out.block⟩⟩
        · replace hbad := Lib.hid (hbad.out (by simp [M.linkB]; omega))
          clear hgood
          go_wp2_with fail
          go_quiet (first | (go_at_call 51; refine Calls.quiet_of_same (quiet_same (within_yes _ _ _ _ (by omega) (by omega)))) | (go_at_call 51; refine Calls.quiet_of_same (quiet_same (within_no _ _ _ _ (by omega)))))
          go_wp2_with fail
          go_ret
          exact ⟨ret_bool hbad.out, ⟨hb.out.os, hb.out.tape, hb.out.output, hb.out.size, hb.out.block⟩⟩
      · obtain rfl : k = n3 := (by omega)
        have hfin := Lib.hid (M.armB_ok (l := l) (lo := lo) (hi := hi) (by omega) (by rw [h1]; exact hall.out))
        go_wp2_with fail
        go_ret
        exact ⟨ret_bool hfin.out, hb.out⟩
  · have hfin := Lib.hid (M.armB_len (l := l) (lo := lo) (hi := hi) (by rw [h1, h2, h3]; exact hl))
    by_cases hl1 : (1 : Int) ≤ n1 ∧ (n1 : Int) ≤ 4
    · by_cases hl2 : (n2 : Int) = n1
      · have hl3 : ¬ ((n3 : Int) = n1) := by omega
        go_enter Tryd.func36, Tryd.ntmps36
        go_wp2_with (first | (go_at_call 51; refine (within_yes _ _ _ _ (by omega) (by omega)).mono ?_; rintro e w' ⟨rfl, rfl⟩) | (go_at_call 51; refine (within_no _ _ _ _ (by omega)).mono ?_; rintro e w' ⟨rfl, rfl⟩))
        go_ret
        exact ⟨ret_bool hfin.out, (Below.refl _ _).alloc (Nat.le_refl _) _⟩
      · go_enter Tryd.func36, Tryd.ntmps36
        go_wp2_with (first | (go_at_call 51; refine (within_yes _ _ _ _ (by omega) (by omega)).mono ?_; rintro e w' ⟨rfl, rfl⟩) | (go_at_call 51; refine (within_no _ _ _ _ (by omega)).mono ?_; rintro e w' ⟨rfl, rfl⟩))
        go_ret
        exact ⟨ret_bool hfin.out, (Below.refl _ _).alloc (Nat.le_refl _) _⟩
    · go_enter Tryd.func36, Tryd.ntmps36
      go_wp2_with (first | (go_at_call 51; refine (within_yes _ _ _ _ (by omega) (by omega)).mono ?_; rintro e w' ⟨rfl, rfl⟩) | (go_at_call 51; refine (within_no _ _ _ _ (by omega)).mono ?_; rintro e w' ⟨rfl, rfl⟩))
      go_ret
      exact ⟨ret_bool hfin.out, (Below.refl _ _).alloc (Nat.le_refl _) _⟩
set_option maxHeartbeats 2000000 in
theorem spec_arm (a1 a2 a3 : Option Addr) (n1 c1 n2 c2 n3 c3 : Nat) (l lo hi : List Int) (w : World) (h1 : l.length = n1) (h2 : lo.length = n2) (h3 : hi.length = n3) (hm : n1 ≤ 1000000000 ∧ n2 ≤ 1000000000 ∧ n3 ≤ 1000000000) (hr : ArmAt w w.heap.size a1 a2 a3 l lo hi) :
    Calls Tryd.prog 60 #[.agg #[.slice a1 n1 c1, .slice a2 n2 c2, .slice a3 n3 c3]] w fun e w' => e = .returned (.bool (M.armB l lo hi)) ∧ Below w.heap.size w w' := by
  by_cases hl : (1 ≤ n1 ∧ n1 ≤ 4) ∧ n2 = n1 ∧ n3 = n1
  · obtain ⟨⟨g1, g2⟩, rfl, rfl⟩ := hl
    obtain ⟨b1, o1, rfl, hb1, r1⟩ := hr.1.at (by intro e; rw [e] at h1; simp at h1; omega)
    obtain ⟨b2, o2, rfl, hb2, r2⟩ := hr.2.1.at (by intro e; rw [e] at h2; simp at h2; omega)
    obtain ⟨b3, o3, rfl, hb3, r3⟩ := hr.2.2.at (by intro e; rw [e] at h3; simp at h3; omega)
    clear hr
    replace r1 := Lib.hid r1
    replace r2 := Lib.hid r2
    replace r3 := Lib.hid r3
    go_enter Tryd.func60, Tryd.ntmps60
    go_wp2_with (first | (go_at_call 53; refine (l1In_yes _ _ _ _ (by omega) (by omega)).mono ?_; rintro e w' ⟨rfl, rfl⟩) | (go_at_call 53; refine (l1In_no _ _ _ _ (by omega)).mono ?_; rintro e w' ⟨rfl, rfl⟩))
    go_loopw [4] (fun i wr => ∃ k : Nat, i = .int .i64 k ∧ k ≤ n3 ∧ (∀ j, j < k → M.linkB (l.getD j 0) (lo.getD j 0) (hi.getD j 0) = true) ∧ (wr.cell? ⟨w.heap.size, 0, none⟩ = some (.slice (some ⟨b1, o1, none⟩) n3 c1) ∧ wr.cell? ⟨w.heap.size, 1, none⟩ = some (.slice (some ⟨b2, o2, none⟩) n3 c2) ∧ wr.cell? ⟨w.heap.size, 2, none⟩ = some (.slice (some ⟨b3, o3, none⟩) n3 c3)) ∧ Below w.heap.size w wr) (fun i _ => n3 - (intOf i).toNat)
    case atStart => exact ⟨0, rfl, Nat.zero_le _, fun j hj => absurd hj (Nat.not_lt_zero _), ⟨by simp [go_sem], by simp [go_sem], by simp [go_sem]⟩, (Below.refl _ _).alloc (Nat.le_refl _) _⟩
    case round =>
      obtain ⟨k, rfl, hk, hall, ⟨d1, d2, d3⟩, hb⟩ := hrel
      replace hb := Lib.hid hb
      replace hall := Lib.hid hall
      by_cases hlt : k < n3
      · have x1 := r1.out k (by omega)
        rw [← hb.out.cell (p := ⟨b1, o1 + k, none⟩) hb1] at x1
        have x2 := r2.out k (by omega)
        rw [← hb.out.cell (p := ⟨b2, o2 + k, none⟩) hb2] at x2
        have x3 := r3.out k (by omega)
        rw [← hb.out.cell (p := ⟨b3, o3 + k, none⟩) hb3] at x3
        have hk2 : (k : Int) < (n3 : Int) := by omega
        have hbad := Lib.hid (fun h => M.armB_bad (l := l) (lo := lo) (hi := hi) (k := k) (by omega) h)
        have hgood := Lib.hid (show M.linkB (l.getD k 0) (lo.getD k 0) (hi.getD k 0) = true → ∀ j, j < k + 1 → M.linkB (l.getD j 0) (lo.getD j 0) (hi.getD j 0) = true from fun h j hj => by (rcases Nat.lt_or_ge j k with e | e; exact hall.out j e; obtain rfl : j = k := (by omega); exact h))
        generalize l.getD k 0 = x at *
        generalize lo.getD k 0 = y at *
        generalize hi.getD k 0 = z at *
        clear hall r1 r2 r3
        by_cases q1 : 1 ≤ x ∧ x ≤ 500
        · by_cases q2 : -180 ≤ y ∧ y ≤ 180
          · by_cases q3 : y ≤ z ∧ z ≤ 180
            · replace hgood := Lib.hid (hgood.out (by simp [M.linkB]; omega))
              clear hbad
              go_wp2_with fail
              go_quiet (first | (go_at_call 53; refine Calls.quiet_of_same (quiet_same (l1In_yes _ _ _ _ (by omega) (by omega)))) | (go_at_call 53; refine Calls.quiet_of_same (quiet_same (l1In_no _ _ _ _ (by omega)))))
              go_wp2_with fail
              go_roundw
              case rel => exact ⟨k + 1, by go_num, by omega, hgood.out, ⟨d1, d2, d3⟩, ⟨hb.out.os, hb.out.tape, hb.out.output, hb.out.size, hb.out.block⟩⟩
              case measure => simp [intOf]; omega
            · replace hbad := Lib.hid (hbad.out (by simp [M.linkB]; omega))
              clear hgood
              go_wp2_with fail
              go_quiet (first | (go_at_call 53; refine Calls.quiet_of_same (quiet_same (l1In_yes _ _ _ _ (by omega) (by omega)))) | (go_at_call 53; refine Calls.quiet_of_same (quiet_same (l1In_no _ _ _ _ (by omega)))))
              go_wp2_with fail
              go_ret
              exact ⟨ret_bool hbad.out, ⟨hb.out.os, hb.out.tape, hb.out.output, hb.out.size, hb.out.block⟩⟩
          · replace hbad := Lib.hid (hbad.out (by simp [M.linkB]; omega))
            clear hgood
            go_wp2_with fail
            go_quiet (first | (go_at_call 53; refine Calls.quiet_of_same (quiet_same (l1In_yes _ _ _ _ (by omega) (by omega)))) | (go_at_call 53; refine Calls.quiet_of_same (quiet_same (l1In_no _ _ _ _ (by omega)))))
            go_wp2_with fail
            go_ret
            exact ⟨ret_bool hbad.out, ⟨hb.out.os, hb.out.tape, hb.out.output, hb.out.size, hb.out.block⟩⟩
        · replace hbad := Lib.hid (hbad.out (by simp [M.linkB]; omega))
          clear hgood
          go_wp2_with fail
          go_quiet (first | (go_at_call 53; refine Calls.quiet_of_same (quiet_same (l1In_yes _ _ _ _ (by omega) (by omega)))) | (go_at_call 53; refine Calls.quiet_of_same (quiet_same (l1In_no _ _ _ _ (by omega)))))
          go_wp2_with fail
          go_ret
          exact ⟨ret_bool hbad.out, ⟨hb.out.os, hb.out.tape, hb.out.output, hb.out.size, hb.out.block⟩⟩
      · obtain rfl : k = n3 := (by omega)
        have hfin := Lib.hid (M.armB_ok (l := l) (lo := lo) (hi := hi) (by omega) (by rw [h1]; exact hall.out))
        go_wp2_with fail
        go_ret
        exact ⟨ret_bool hfin.out, hb.out⟩
  · have hfin := Lib.hid (M.armB_len (l := l) (lo := lo) (hi := hi) (by rw [h1, h2, h3]; exact hl))
    by_cases hl1 : (1 : Int) ≤ n1 ∧ (n1 : Int) ≤ 4
    · by_cases hl2 : (n2 : Int) = n1
      · have hl3 : ¬ ((n3 : Int) = n1) := by omega
        go_enter Tryd.func60, Tryd.ntmps60
        go_wp2_with (first | (go_at_call 53; refine (l1In_yes _ _ _ _ (by omega) (by omega)).mono ?_; rintro e w' ⟨rfl, rfl⟩) | (go_at_call 53; refine (l1In_no _ _ _ _ (by omega)).mono ?_; rintro e w' ⟨rfl, rfl⟩))
        go_ret
        exact ⟨ret_bool hfin.out, (Below.refl _ _).alloc (Nat.le_refl _) _⟩
      · go_enter Tryd.func60, Tryd.ntmps60
        go_wp2_with (first | (go_at_call 53; refine (l1In_yes _ _ _ _ (by omega) (by omega)).mono ?_; rintro e w' ⟨rfl, rfl⟩) | (go_at_call 53; refine (l1In_no _ _ _ _ (by omega)).mono ?_; rintro e w' ⟨rfl, rfl⟩))
        go_ret
        exact ⟨ret_bool hfin.out, (Below.refl _ _).alloc (Nat.le_refl _) _⟩
    · go_enter Tryd.func60, Tryd.ntmps60
      go_wp2_with (first | (go_at_call 53; refine (l1In_yes _ _ _ _ (by omega) (by omega)).mono ?_; rintro e w' ⟨rfl, rfl⟩) | (go_at_call 53; refine (l1In_no _ _ _ _ (by omega)).mono ?_; rintro e w' ⟨rfl, rfl⟩))
      go_ret
      exact ⟨ret_bool hfin.out, (Below.refl _ _).alloc (Nat.le_refl _) _⟩
end Go.Proofs.YtmainffjekjlnaaDoor
