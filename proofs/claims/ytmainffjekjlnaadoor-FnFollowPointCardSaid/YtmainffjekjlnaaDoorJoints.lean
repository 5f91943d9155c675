/- Contracts of the validity of joint angles, in both packages. -/
import Derived.Test.YtmainffjekjlnaaDoorArm
namespace Go.Proofs.YtmainffjekjlnaaDoor
open Go.ChangeShapes Go.WideShapes Go.ChangeAt Go.RowKit
set_option linter.unusedVariables false
def M.inB (x a b : Int) : Bool := decide (a ≤ x ∧ x ≤ b)
theorem M.inB_iff {x a b : Int} : M.inB x a b = true ↔ a ≤ x ∧ x ≤ b := by unfold M.inB; exact decide_eq_true_iff
theorem M.inB_no {x a b : Int} (h : ¬ (a ≤ x ∧ x ≤ b)) : M.inB x a b = false := by unfold M.inB; exact decide_eq_false h
def M.jointsB (l lo hi j : List Int) : Bool := M.armB l lo hi && (decide (j.length = l.length) && (List.range j.length).all fun k => M.inB (j.getD k 0) (lo.getD k 0) (hi.getD k 0))
theorem M.joints_arm {l lo hi j : List Int} (h : M.armB l lo hi = false) : false = M.jointsB l lo hi j := by unfold M.jointsB; rw [h]; rfl
theorem M.joints_len {l lo hi j : List Int} (h : ¬ j.length = l.length) : false = M.jointsB l lo hi j := by unfold M.jointsB; rw [decide_eq_false h]; simp
theorem M.joints_bad {l lo hi j : List Int} {k : Nat} (hk : k < j.length) (h : M.inB (j.getD k 0) (lo.getD k 0) (hi.getD k 0) = false) : false = M.jointsB l lo hi j := by
  symm; unfold M.jointsB; rw [Bool.and_eq_false_iff]; right; rw [Bool.and_eq_false_iff]; right; rw [List.all_eq_false]; exact ⟨k, by simpa using hk, by rw [h]; exact Bool.false_ne_true⟩
theorem M.joints_ok {l lo hi j : List Int} (h1 : M.armB l lo hi = true) (h2 : j.length = l.length) (h : ∀ k, k < j.length → M.inB (j.getD k 0) (lo.getD k 0) (hi.getD k 0) = true) : true = M.jointsB l lo hi j := by
  symm; unfold M.jointsB; rw [h1, decide_eq_true h2, Bool.true_and, Bool.true_and, List.all_eq_true]; intro k hk; exact h k (by simpa using hk)
theorem M.joints_true {l lo hi j : List Int} (h : M.jointsB l lo hi j = true) : M.armB l lo hi = true ∧ j.length = l.length ∧ ∀ k, k < j.length → lo.getD k 0 ≤ j.getD k 0 ∧ j.getD k 0 ≤ hi.getD k 0 := by
  unfold M.jointsB at h
  rw [Bool.and_eq_true, Bool.and_eq_true, List.all_eq_true] at h
  exact ⟨h.1, of_decide_eq_true h.2.1, fun k hk => M.inB_iff.1 (h.2.2 k (by simpa using hk))⟩
theorem M.armB_true {l lo hi : List Int} (h : M.armB l lo hi = true) : ((1 ≤ l.length ∧ l.length ≤ 4) ∧ lo.length = l.length ∧ hi.length = l.length) ∧ ∀ k, k < l.length → (1 ≤ l.getD k 0 ∧ l.getD k 0 ≤ 500) ∧ (-180 ≤ lo.getD k 0 ∧ lo.getD k 0 ≤ 180) ∧ (lo.getD k 0 ≤ hi.getD k 0 ∧ hi.getD k 0 ≤ 180) := by
  unfold M.armB at h
  rw [Bool.and_eq_true, List.all_eq_true] at h
  exact ⟨of_decide_eq_true h.1, fun k hk => by have := h.2 k (by simpa using hk); unfold M.linkB at this; exact of_decide_eq_true this⟩
theorem Row.form {w : World} {B : Nat} {a : Option Addr} {l : List Int} (h : Row w B a l) (hl : 0 < l.length) : ∃ b o, a = some ⟨b, o, none⟩ := by
  obtain ⟨b, o, e, _⟩ := h.at (by intro e; rw [e] at hl; simp at hl)
  exact ⟨b, o, e⟩
theorem Row.cell {w w' : World} {B b o k : Nat} {l : List Int} (h : Row w B (some ⟨b, o, none⟩) l) (hb : Below B w w') (hk : k < l.length) : w'.cell? ⟨b, o + k, none⟩ = some (.int .i64 (l.getD k 0)) := by
  obtain ⟨b', o', e, hlt, hc⟩ := h.at (by intro e; rw [e] at hk; simp at hk)
  injection e with e
  injection e with e1 e2
  subst e1; subst e2
  rw [hb.cell (p := ⟨b, o + k, none⟩) hlt]; exact hc k hk
set_option maxHeartbeats 4000000 in
theorem impl_joints (a1 a2 a3 aj : Option Addr) (n1 c1 n2 c2 n3 c3 m cm : Nat) (l lo hi j : List Int) (w : World) (h1 : l.length = n1) (h2 : lo.length = n2) (h3 : hi.length = n3) (h4 : j.length = m) (hm : n1 ≤ 1000000000 ∧ n2 ≤ 1000000000 ∧ n3 ≤ 1000000000) (hm4 : m ≤ 1000000000) (hr : ArmAt w w.heap.size a1 a2 a3 l lo hi) (hj : Row w w.heap.size aj j) :
    Calls Tryd.prog 26 #[.agg #[.slice a1 n1 c1, .slice a2 n2 c2, .slice a3 n3 c3], .slice aj m cm] w fun e w' => e = .returned (.bool (M.jointsB l lo hi j)) ∧ Below w.heap.size w w' := by
  obtain ⟨m1, m2, m3⟩ := hm
  replace h1 := Lib.hid h1
  replace h2 := Lib.hid h2
  replace h3 := Lib.hid h3
  replace h4 := Lib.hid h4
  replace hr := Lib.hid hr
  replace hj := Lib.hid hj
  have bb := Lib.hid (Below.refl w.heap.size w)
  have k0 := Cell3.new w (.slice a1 n1 c1) (.slice a2 n2 c2) (.slice a3 n3 c3) 25
  replace bb := Lib.hid (bel_after bb.out (bel_new w (.cells #[.slice a1 n1 c1, .slice a2 n2 c2, .slice a3 n3 c3] 25)))
  replace hr := Lib.hid (hr.out.after (bel_new w (.cells #[.slice a1 n1 c1, .slice a2 n2 c2, .slice a3 n3 c3] 25)))
  replace hj := Lib.hid (hj.out.after (bel_new w (.cells #[.slice a1 n1 c1, .slice a2 n2 c2, .slice a3 n3 c3] 25)))
  go_enter Tryd.func26, Tryd.ntmps26
  obtain ⟨x0, x1, x2, x3, x4, x5⟩ := id k0
  go_wp2_with fail
  clear x0 x1 x2 x3 x4 x5
  refine (impl_arm a1 a2 a3 n1 c1 n2 c2 n3 c3 l lo hi _ h1.out h2.out h3.out ⟨m1, m2, m3⟩ hr.out).mono ?_
  rintro e wl ⟨rfl, q⟩
  replace k0 := k0.after q
  replace bb := Lib.hid (bel_after bb.out q)
  replace hr := Lib.hid (hr.out.after q)
  replace hj := Lib.hid (hj.out.after q)
  clear q
  cases hA : M.armB l lo hi
  · have hfin := Lib.hid (M.joints_arm (j := j) hA)
    clear hA
    obtain ⟨x0, x1, x2, x3, x4, x5⟩ := id k0
    go_wp2_with fail
    go_ret
    exact ⟨ret_bool hfin.out, bb.out⟩
  · obtain ⟨⟨⟨e1, e2⟩, e3, e4⟩, hv⟩ := M.armB_true hA
    rw [h1.out] at e1 e2 e3 e4
    rw [h2.out] at e3
    rw [h3.out] at e4
    have f1 : n2 ≤ n1 := by omega
    have f2 : n1 ≤ n2 := by omega
    have f3 : n3 ≤ n1 := by omega
    have f4 : n1 ≤ n3 := by omega
    clear e3 e4
    replace hv := Lib.hid hv
    replace hA := Lib.hid hA
    by_cases hl : m = n1
    · have hl1 : ((m : Int) != (n1 : Int)) = false := by simp; omega
      have hl2 : m ≤ n1 := by omega
      have hl3 : n1 ≤ m := by omega
      clear hl
      obtain ⟨b1, o1, rfl⟩ := hr.out.1.form (by rw [h1.out]; omega)
      obtain ⟨b2, o2, rfl⟩ := hr.out.2.1.form (by rw [h2.out]; omega)
      obtain ⟨b3, o3, rfl⟩ := hr.out.2.2.form (by rw [h3.out]; omega)
      obtain ⟨b4, o4, rfl⟩ := hj.out.form (by rw [h4.out]; omega)
      obtain ⟨x0, x1, x2, x3, x4, x5⟩ := id k0
      go_wp2_with fail
      clear x0 x1 x2 x3 x4 x5
      go_loopw [5, 6, 20] (fun _ _ i wr => ∃ k : Nat, i = .int .i64 k ∧ k ≤ m ∧ (∀ t, t < k → M.inB (j.getD t 0) (lo.getD t 0) (hi.getD t 0) = true) ∧ Hid (Below wl.heap.size wl wr)) (fun _ _ i _ => m - (intOf i).toNat)
      case atStart => exact ⟨0, rfl, Nat.zero_le _, fun t ht => absurd ht (Nat.not_lt_zero _), Below.refl _ _⟩
      case round =>
        obtain ⟨k, rfl, hk, hall, hb⟩ := hrel
        replace hall := Lib.hid hall
        by_cases hlt : k < m
        · obtain ⟨x0, x1, x2, x3, x4, x5⟩ := k0.after hb.out
          have y1 := hj.out.cell hb.out (k := k) (by rw [h4.out]; exact hlt)
          have y2 := hr.out.2.1.cell hb.out (k := k) (by rw [h2.out]; omega)
          have y3 := hr.out.2.2.cell hb.out (k := k) (by rw [h3.out]; omega)
          have hk2 : (k : Int) < (n2 : Int) := by omega
          have hk3 : (k : Int) < (n3 : Int) := by omega
          have hk4 : (k : Int) < (m : Int) := by omega
          have hbad := Lib.hid (fun h => M.joints_bad (l := l) (lo := lo) (hi := hi) (j := j) (k := k) (by rw [h4.out]; omega) h)
          have hgood := Lib.hid (show M.inB (j.getD k 0) (lo.getD k 0) (hi.getD k 0) = true → ∀ t, t < k + 1 → M.inB (j.getD t 0) (lo.getD t 0) (hi.getD t 0) = true from fun h t ht => by (rcases Nat.lt_or_ge t k with e | e; exact hall.out t e; obtain rfl : t = k := (by omega); exact h))
          generalize j.getD k 0 = x at *
          generalize lo.getD k 0 = y at *
          generalize hi.getD k 0 = z at *
          by_cases q3 : y ≤ x ∧ x ≤ z
          · replace hgood := Lib.hid (hgood.out (M.inB_iff.2 q3))
            go_wp2_with fail
            go_quiet (first | (go_at_call 51; refine Calls.quiet_of_same (quiet_same (within_yes _ _ _ _ (by omega) (by omega)))) | (go_at_call 51; refine Calls.quiet_of_same (quiet_same (within_no _ _ _ _ (by omega)))))
            go_wp2_with fail
            go_roundw
            case rel => exact ⟨k + 1, by go_num, by omega, hgood.out, ⟨hb.out.os, hb.out.tape, hb.out.output, hb.out.size, hb.out.block⟩⟩
            case measure => simp [intOf]; omega
          · replace hbad := Lib.hid (hbad.out (M.inB_no q3))
            go_wp2_with fail
            go_quiet (first | (go_at_call 51; refine Calls.quiet_of_same (quiet_same (within_yes _ _ _ _ (by omega) (by omega)))) | (go_at_call 51; refine Calls.quiet_of_same (quiet_same (within_no _ _ _ _ (by omega)))))
            go_wp2_with fail
            go_ret
            exact ⟨ret_bool hbad.out, bel_after bb.out ⟨hb.out.os, hb.out.tape, hb.out.output, hb.out.size, hb.out.block⟩⟩
        · obtain rfl : k = m := (by omega)
          have hfin := Lib.hid (M.joints_ok (l := l) (lo := lo) (hi := hi) (j := j) hA.out (by rw [h4.out, h1.out]; omega) (by rw [h4.out]; exact hall.out))
          go_wp2_with fail
          go_ret
          exact ⟨ret_bool hfin.out, bel_after bb.out hb.out⟩
    · have hl1 : ((m : Int) != (n1 : Int)) = true := by simp; omega
      have hfin := Lib.hid (M.joints_len (l := l) (lo := lo) (hi := hi) (j := j) (by rw [h4.out, h1.out]; exact hl))
      clear hl
      obtain ⟨x0, x1, x2, x3, x4, x5⟩ := id k0
      go_wp2_with fail
      go_ret
      exact ⟨ret_bool hfin.out, bb.out⟩
set_option maxHeartbeats 4000000 in
theorem spec_joints (a1 a2 a3 aj : Option Addr) (n1 c1 n2 c2 n3 c3 m cm : Nat) (l lo hi j : List Int) (w : World) (h1 : l.length = n1) (h2 : lo.length = n2) (h3 : hi.length = n3) (h4 : j.length = m) (hm : n1 ≤ 1000000000 ∧ n2 ≤ 1000000000 ∧ n3 ≤ 1000000000) (hm4 : m ≤ 1000000000) (hr : ArmAt w w.heap.size a1 a2 a3 l lo hi) (hj : Row w w.heap.size aj j) :
    Calls Tryd.prog 52 #[.agg #[.slice a1 n1 c1, .slice a2 n2 c2, .slice a3 n3 c3], .slice aj m cm] w fun e w' => e = .returned (.bool (M.jointsB l lo hi j)) ∧ Below w.heap.size w w' := by
  obtain ⟨m1, m2, m3⟩ := hm
  replace h1 := Lib.hid h1
  replace h2 := Lib.hid h2
  replace h3 := Lib.hid h3
  replace h4 := Lib.hid h4
  replace hr := Lib.hid hr
  replace hj := Lib.hid hj
  have bb := Lib.hid (Below.refl w.heap.size w)
  have k0 := Cell3.new w (.slice a1 n1 c1) (.slice a2 n2 c2) (.slice a3 n3 c3) 25
  replace bb := Lib.hid (bel_after bb.out (bel_new w (.cells #[.slice a1 n1 c1, .slice a2 n2 c2, .slice a3 n3 c3] 25)))
  replace hr := Lib.hid (hr.out.after (bel_new w (.cells #[.slice a1 n1 c1, .slice a2 n2 c2, .slice a3 n3 c3] 25)))
  replace hj := Lib.hid (hj.out.after (bel_new w (.cells #[.slice a1 n1 c1, .slice a2 n2 c2, .slice a3 n3 c3] 25)))
  go_enter Tryd.func52, Tryd.ntmps52
  obtain ⟨x0, x1, x2, x3, x4, x5⟩ := id k0
  go_wp2_with fail
  clear x0 x1 x2 x3 x4 x5
  refine (spec_arm a1 a2 a3 n1 c1 n2 c2 n3 c3 l lo hi _ h1.out h2.out h3.out ⟨m1, m2, m3⟩ hr.out).mono ?_
  rintro e wl ⟨rfl, q⟩
  replace k0 := k0.after q
  replace bb := Lib.hid (bel_after bb.out q)
  replace hr := Lib.hid (hr.out.after q)
  replace hj := Lib.hid (hj.out.after q)
  clear q
  cases hA : M.armB l lo hi
  · have hfin := Lib.hid (M.joints_arm (j := j) hA)
    clear hA
    obtain ⟨x0, x1, x2, x3, x4, x5⟩ := id k0
    go_wp2_with fail
    go_ret
    exact ⟨ret_bool hfin.out, bb.out⟩
  · obtain ⟨⟨⟨e1, e2⟩, e3, e4⟩, hv⟩ := M.armB_true hA
    rw [h1.out] at e1 e2 e3 e4
    rw [h2.out] at e3
    rw [h3.out] at e4
    have f1 : n2 ≤ n1 := by omega
    have f2 : n1 ≤ n2 := by omega
    have f3 : n3 ≤ n1 := by omega
    have f4 : n1 ≤ n3 := by omega
    clear e3 e4
    replace hv := Lib.hid hv
    replace hA := Lib.hid hA
    by_cases hl : m = n1
    · have hl1 : ((m : Int) != (n1 : Int)) = false := by simp; omega
      have hl2 : m ≤ n1 := by omega
      have hl3 : n1 ≤ m := by omega
      clear hl
      obtain ⟨b1, o1, rfl⟩ := hr.out.1.form (by rw [h1.out]; omega)
      obtain ⟨b2, o2, rfl⟩ := hr.out.2.1.form (by rw [h2.out]; omega)
      obtain ⟨b3, o3, rfl⟩ := hr.out.2.2.form (by rw [h3.out]; omega)
      obtain ⟨b4, o4, rfl⟩ := hj.out.form (by rw [h4.out]; omega)
      obtain ⟨x0, x1, x2, x3, x4, x5⟩ := id k0
      go_wp2_with fail
      clear x0 x1 x2 x3 x4 x5
      go_loopw [5] (fun i wr => ∃ k : Nat, i = .int .i64 k ∧ k ≤ m ∧ (∀ t, t < k → M.inB (j.getD t 0) (lo.getD t 0) (hi.getD t 0) = true) ∧ Hid (Below wl.heap.size wl wr)) (fun i _ => m - (intOf i).toNat)
      case atStart => exact ⟨0, rfl, Nat.zero_le _, fun t ht => absurd ht (Nat.not_lt_zero _), Below.refl _ _⟩
      case round =>
        obtain ⟨k, rfl, hk, hall, hb⟩ := hrel
        replace hall := Lib.hid hall
        by_cases hlt : k < m
        · obtain ⟨x0, x1, x2, x3, x4, x5⟩ := k0.after hb.out
          have y1 := hj.out.cell hb.out (k := k) (by rw [h4.out]; exact hlt)
          have y2 := hr.out.2.1.cell hb.out (k := k) (by rw [h2.out]; omega)
          have y3 := hr.out.2.2.cell hb.out (k := k) (by rw [h3.out]; omega)
          have hk2 : (k : Int) < (n2 : Int) := by omega
          have hk3 : (k : Int) < (n3 : Int) := by omega
          have hk4 : (k : Int) < (m : Int) := by omega
          have hbad := Lib.hid (fun h => M.joints_bad (l := l) (lo := lo) (hi := hi) (j := j) (k := k) (by rw [h4.out]; omega) h)
          have hgood := Lib.hid (show M.inB (j.getD k 0) (lo.getD k 0) (hi.getD k 0) = true → ∀ t, t < k + 1 → M.inB (j.getD t 0) (lo.getD t 0) (hi.getD t 0) = true from fun h t ht => by (rcases Nat.lt_or_ge t k with e | e; exact hall.out t e; obtain rfl : t = k := (by omega); exact h))
          generalize j.getD k 0 = x at *
          generalize lo.getD k 0 = y at *
          generalize hi.getD k 0 = z at *
          by_cases q3 : y ≤ x ∧ x ≤ z
          · replace hgood := Lib.hid (hgood.out (M.inB_iff.2 q3))
            go_wp2_with fail
            go_quiet (first | (go_at_call 53; refine Calls.quiet_of_same (quiet_same (l1In_yes _ _ _ _ (by omega) (by omega)))) | (go_at_call 53; refine Calls.quiet_of_same (quiet_same (l1In_no _ _ _ _ (by omega)))))
            go_wp2_with fail
            go_roundw
            case rel => exact ⟨k + 1, by go_num, by omega, hgood.out, ⟨hb.out.os, hb.out.tape, hb.out.output, hb.out.size, hb.out.block⟩⟩
            case measure => simp [intOf]; omega
          · replace hbad := Lib.hid (hbad.out (M.inB_no q3))
            go_wp2_with fail
            go_quiet (first | (go_at_call 53; refine Calls.quiet_of_same (quiet_same (l1In_yes _ _ _ _ (by omega) (by omega)))) | (go_at_call 53; refine Calls.quiet_of_same (quiet_same (l1In_no _ _ _ _ (by omega)))))
            go_wp2_with fail
            go_ret
            exact ⟨ret_bool hbad.out, bel_after bb.out ⟨hb.out.os, hb.out.tape, hb.out.output, hb.out.size, hb.out.block⟩⟩
        · obtain rfl : k = m := (by omega)
          have hfin := Lib.hid (M.joints_ok (l := l) (lo := lo) (hi := hi) (j := j) hA.out (by rw [h4.out, h1.out]; omega) (by rw [h4.out]; exact hall.out))
          go_wp2_with fail
          go_ret
          exact ⟨ret_bool hfin.out, bel_after bb.out hb.out⟩
    · have hl1 : ((m : Int) != (n1 : Int)) = true := by simp; omega
      have hfin := Lib.hid (M.joints_len (l := l) (lo := lo) (hi := hi) (j := j) (by rw [h4.out, h1.out]; exact hl))
      clear hl
      obtain ⟨x0, x1, x2, x3, x4, x5⟩ := id k0
      go_wp2_with fail
      go_ret
      exact ⟨ret_bool hfin.out, bb.out⟩
end Go.Proofs.YtmainffjekjlnaaDoor
