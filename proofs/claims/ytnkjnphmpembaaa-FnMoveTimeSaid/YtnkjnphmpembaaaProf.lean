/- Contracts of the motion profile and of its time, in both packages. -/
import Derived.Test.YtnkjnphmpembaaaMpMath
import Derived.Test.YtnkjnphmpembaaaOwn
namespace Go.Proofs.Ytnkjnphmpembaaa
open Go.ChangeShapes Go.WideShapes Go.ChangeAt Go.RowKit
set_option linter.unusedVariables false
/-- after some rounds: what is made, and what is left to make -/
def ProfRel (d0 t r s d : Int) (l : List Int) : Prop := M.okIn s d t r ∧ M.prof d0 t r = l ++ M.mp 5000 s d t r
theorem ProfRel.first {d t r : Int} (h : M.okProf d t r) : ProfRel d t r 0 d [] := ⟨h.first, M.prof_yes h⟩
theorem ProfRel.step {d0 t r s d : Int} {l : List Int} (h : ProfRel d0 t r s d l) (hd : 0 < d) : ProfRel d0 t r (M.NS s d t r) (d - M.NS s d t r) (l ++ [M.NS s d t r]) :=
  ⟨M.okIn_step h.1, by rw [h.2, M.mp_pos h.1 hd, List.append_assoc]; rfl⟩
theorem ProfRel.last {d0 t r s d : Int} {l : List Int} (h : ProfRel d0 t r s d l) (hd : ¬ 0 < d) : l = M.prof d0 t r := by
  rw [h.2, M.mp_zero _ _ _ _ _ (by omega), List.append_nil]
theorem ProfRel.len {d0 t r s d : Int} {l : List Int} (h : ProfRel d0 t r s d l) : l.length ≤ 5000 := by
  have := M.prof_len d0 t r; rw [h.2, List.length_append] at this; omega
theorem Owns.push {w0 w w1 : World} {B : Nat} {v v' : Value} {l : List Int} {x : Int} {o : Obj} (h : Owns w B v l) (hb : Below B w0 w) (hs : B ≤ w.heap.size)
    (hown : w1.ownsRow B 3 1 v' (l.length + 1) (l.map (Value.int .i64) ++ [.int .i64 x])) (hg : (w.alloc o).grownBy w1 v.ownBlock) : Owns w1 B v' (l ++ [x]) ∧ Below B w0 w1 := by
  refine ⟨by unfold Owns; simpa using hown, (hb.alloc hs o).grown hg (by simp; omega) (fun k hk => (World.ownsRow.lt h k hk).1)⟩
theorem prof_out {d t r : Int} (h : ¬ M.okProf d t r) : (d < 0 ∨ 5000 < d) ∨ ((0 ≤ d ∧ d ≤ 5000) ∧ (t < 1 ∨ 200 < t)) ∨ ((0 ≤ d ∧ d ≤ 5000) ∧ (1 ≤ t ∧ t ≤ 200) ∧ (r < 1 ∨ 50 < r)) := by unfold M.okProf at h; omega
set_option maxHeartbeats 2000000 in
theorem impl_prof (d t r : Int) (w : World) :
    Calls Try.prog 59 #[.int .i64 d, .int .i64 t, .int .i64 r] w (IntsOut w (M.prof d t r)) := by
  obtain ⟨i0, hi, hz0, hz1, hz2⟩ := info_parts infoInt
  by_cases h : M.okProf d t r
  · have hf := Lib.hid (ProfRel.first h)
    have hlim := Lib.hid h.2
    obtain ⟨⟨a1, a2⟩, ⟨⟨a3, a4⟩, ⟨a5, a6⟩⟩⟩ := h
    go_enter Try.func59, Try.ntmps59
    go_wp2_with (first | (go_at_call 42; refine (within_yes _ _ _ _ (by omega) (by omega)).mono ?_; rintro e w' ⟨rfl, rfl⟩) | (go_at_call 54; refine (limits_yes _ _ _ hlim.out).mono ?_; rintro e w' ⟨rfl, rfl⟩))
    go_loopw [0, 7, 8] (fun dv v sv wr => ∃ (dd ss : Int) (l : List Int), dv = .int .i64 dd ∧ sv = .int .i64 ss ∧ ProfRel d t r ss dd l ∧ Owns wr w.heap.size v l ∧ Below w.heap.size w wr) (fun dv _ _ _ => (intOf dv).toNat)
    case atStart => exact ⟨d, 0, [], rfl, rfl, hf.out, Owns.nil _ _, Below.refl _ _⟩
    case round =>
      obtain ⟨dd, ss, l, rfl, rfl, hrel, hown, hb⟩ := hrel
      by_cases hd : 0 < dd
      · have hst := Lib.hid (hrel.step hd)
        have hlen := hrel.len
        obtain ⟨n1, n2, n3⟩ := M.NS_bd hrel.1
        have n4 := M.NS_pos hrel.1 hd
        have e1 : M.next ss dd t r = M.NS ss dd t r := M.next_yes hrel.1
        obtain ⟨⟨⟨o1, o2⟩, ⟨o3, o4⟩⟩, _⟩ := hrel.1
        have hsz := hb.size
        clear hrel
        go_wp2_with (first | (go_at_call 63; refine (impl_next _ _ _ _ _).mono ?_; rintro e w' ⟨rfl, rfl⟩) | (at_builtin; refine wpList_append_own _ rfl _ _ 23 rfl w.heap.size 3 i0 (.int .i64 0) 1 8 Try.underlying23 hi hz0 hz1 hz2 rfl (by decide) _ _ _ rfl (World.ownsRow.alloc hown _) ⟨wr.heap.size, 0, none⟩ 1 1 [.int .i64 (M.NS ss dd t r)] rfl rfl ?c1 ?c2 ?c3 ?c4 ?c5 ?_))
        case c1 =>
          intro j u hj
          match j, hj with
          | 0, hj => simp at hj; subst hj; simp [Addr.add]
        case c2 => intro u hu; simp at hu; subst hu; rfl
        case c3 => unfold maxLen; omega
        case c4 => omega
        case c5 => simp; omega
        intro v' w1 hown' hgrow _
        have hp := Lib.hid (hown.push hb hsz hown' hgrow)
        clear hown' hgrow hown
        go_wp2
        go_roundw
        case rel => exact ⟨_, _, _, rfl, rfl, hst.out, hp.out.1, hp.out.2⟩
        case measure => simp [intOf]; omega
      · have hl := Lib.hid (hrel.last hd)
        clear hrel
        go_wp2
        go_ret
        exact ⟨_, rfl, by rw [← hl.out]; exact hown, hb⟩
  · have e0 := Lib.hid (M.prof_no h)
    rcases prof_out h with h | ⟨⟨a1, a2⟩, h⟩ | ⟨⟨a1, a2⟩, ⟨⟨a3, a4⟩, h⟩⟩
    · go_enter Try.func59, Try.ntmps59
      go_wp2_with (go_at_call 42; refine (within_no _ _ _ _ h).mono ?_; rintro e w' ⟨rfl, rfl⟩)
      go_ret
      exact ⟨_, rfl, by rw [e0.out]; exact Owns.nil _ _, Below.refl _ _⟩
    · have hl := Lib.hid (show ¬ ((1 ≤ t ∧ t ≤ 200) ∧ (1 ≤ r ∧ r ≤ 50)) by omega)
      go_enter Try.func59, Try.ntmps59
      go_wp2_with (first | (go_at_call 42; refine (within_yes _ _ _ _ a1 a2).mono ?_; rintro e w' ⟨rfl, rfl⟩) | (go_at_call 54; refine (limits_no _ _ _ hl.out).mono ?_; rintro e w' ⟨rfl, rfl⟩))
      go_ret
      exact ⟨_, rfl, by rw [e0.out]; exact Owns.nil _ _, Below.refl _ _⟩
    · have hl := Lib.hid (show ¬ ((1 ≤ t ∧ t ≤ 200) ∧ (1 ≤ r ∧ r ≤ 50)) by omega)
      go_enter Try.func59, Try.ntmps59
      go_wp2_with (first | (go_at_call 42; refine (within_yes _ _ _ _ a1 a2).mono ?_; rintro e w' ⟨rfl, rfl⟩) | (go_at_call 54; refine (limits_no _ _ _ hl.out).mono ?_; rintro e w' ⟨rfl, rfl⟩))
      go_ret
      exact ⟨_, rfl, by rw [e0.out]; exact Owns.nil _ _, Below.refl _ _⟩
set_option maxHeartbeats 2000000 in
theorem spec_prof (d t r : Int) (w : World) :
    Calls Try.prog 52 #[.int .i64 d, .int .i64 t, .int .i64 r] w (IntsOut w (M.prof d t r)) := by
  obtain ⟨i0, hi, hz0, hz1, hz2⟩ := info_parts infoInt
  have hmade := Lib.hid (Owns.made (w := w) (Nat.le_refl _))
  have hbm := Lib.hid ((Below.refl w.heap.size w).alloc (Nat.le_refl _) (.cells #[] 3))
  by_cases h : M.okProf d t r
  · have hf := Lib.hid (ProfRel.first h)
    have hlim := Lib.hid h.2
    obtain ⟨⟨a1, a2⟩, ⟨⟨a3, a4⟩, ⟨a5, a6⟩⟩⟩ := h
    go_enter Try.func52, Try.ntmps52
    go_wp2_with (first | (go_at_call 43; refine (l1In_yes _ _ _ _ (by omega) (by omega)).mono ?_; rintro e w' ⟨rfl, rfl⟩))
    go_loopw [0, 7, 8] (fun dv v sv wr => ∃ (dd ss : Int) (l : List Int), dv = .int .i64 dd ∧ sv = .int .i64 ss ∧ ProfRel d t r ss dd l ∧ Owns wr w.heap.size v l ∧ Below w.heap.size w wr) (fun dv _ _ _ => (intOf dv).toNat)
    case atStart => exact ⟨d, 0, [], rfl, rfl, hf.out, hmade.out, hbm.out⟩
    case round =>
      obtain ⟨dd, ss, l, rfl, rfl, hrel, hown, hb⟩ := hrel
      by_cases hd : 0 < dd
      · have hst := Lib.hid (hrel.step hd)
        have hlen := hrel.len
        obtain ⟨n1, n2, n3⟩ := M.NS_bd hrel.1
        have n4 := M.NS_pos hrel.1 hd
        have e1 : M.next ss dd t r = M.NS ss dd t r := M.next_yes hrel.1
        obtain ⟨⟨⟨o1, o2⟩, ⟨o3, o4⟩⟩, _⟩ := hrel.1
        have hsz := hb.size
        clear hrel
        go_wp2_with (first | (go_at_call 58; refine (spec_next _ _ _ _ _).mono ?_; rintro e w' ⟨rfl, rfl⟩) | (at_builtin; refine wpList_append_own _ rfl _ _ 23 rfl w.heap.size 3 i0 (.int .i64 0) 1 8 Try.underlying23 hi hz0 hz1 hz2 rfl (by decide) _ _ _ rfl (World.ownsRow.alloc hown _) ⟨wr.heap.size, 0, none⟩ 1 1 [.int .i64 (M.NS ss dd t r)] rfl rfl ?c1 ?c2 ?c3 ?c4 ?c5 ?_))
        case c1 =>
          intro j u hj
          match j, hj with
          | 0, hj => simp at hj; subst hj; simp [Addr.add]
        case c2 => intro u hu; simp at hu; subst hu; rfl
        case c3 => unfold maxLen; omega
        case c4 => omega
        case c5 => simp; omega
        intro v' w1 hown' hgrow _
        have hp := Lib.hid (hown.push hb hsz hown' hgrow)
        clear hown' hgrow hown
        go_wp2
        go_roundw
        case rel => exact ⟨_, _, _, rfl, rfl, hst.out, hp.out.1, hp.out.2⟩
        case measure => simp [intOf]; omega
      · have hl := Lib.hid (hrel.last hd)
        clear hrel
        go_wp2
        go_ret
        exact ⟨_, rfl, by rw [← hl.out]; exact hown, hb⟩
  · have e0 := Lib.hid (M.prof_no h)
    rcases prof_out h with h | ⟨⟨a1, a2⟩, h⟩ | ⟨⟨a1, a2⟩, ⟨⟨a3, a4⟩, h⟩⟩
    · go_enter Try.func52, Try.ntmps52
      go_wp2_with (go_at_call 43; refine (l1In_no _ _ _ _ h).mono ?_; rintro e w' ⟨rfl, rfl⟩)
      go_ret
      exact ⟨_, rfl, by rw [e0.out]; exact hmade.out, hbm.out⟩
    · go_enter Try.func52, Try.ntmps52
      go_wp2_with fail
      refine (l1In_yes _ _ _ _ a1 a2).mono ?_
      rintro e w' ⟨rfl, rfl⟩
      go_wp2_with fail
      refine (l1In_no _ _ _ _ h).mono ?_
      rintro e w' ⟨rfl, rfl⟩
      go_wp2_with fail
      go_ret
      exact ⟨_, rfl, by rw [e0.out]; exact hmade.out, hbm.out⟩
    · go_enter Try.func52, Try.ntmps52
      go_wp2_with fail
      refine (l1In_yes _ _ _ _ a1 a2).mono ?_
      rintro e w' ⟨rfl, rfl⟩
      go_wp2_with fail
      refine (l1In_yes _ _ _ _ a3 a4).mono ?_
      rintro e w' ⟨rfl, rfl⟩
      go_wp2_with fail
      refine (l1In_no _ _ _ _ h).mono ?_
      rintro e w' ⟨rfl, rfl⟩
      go_wp2_with fail
      go_ret
      exact ⟨_, rfl, by rw [e0.out]; exact hmade.out, hbm.out⟩
end Go.Proofs.Ytnkjnphmpembaaa
