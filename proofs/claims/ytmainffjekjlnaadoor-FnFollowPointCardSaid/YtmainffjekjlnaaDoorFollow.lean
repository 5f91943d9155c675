/- Contracts of FollowPoint, in both packages, and of slices.Equal. -/
import Derived.Test.YtmainffjekjlnaaDoorStep
namespace Go.Proofs.YtmainffjekjlnaaDoor
open Go.ChangeShapes Go.WideShapes Go.ChangeAt Go.RowKit
set_option linter.unusedVariables false
set_option maxHeartbeats 1000000 in
theorem slices_equal (a1 a2 : Option Addr) (n1 n2 c1 c2 B : Nat) (l1 l2 : List Int) (w : World) (hl1 : l1.length = n1) (hl2 : l2.length = n2) (hm : n1 ≤ 1000000000) (hr1 : Row w w.heap.size a1 l1) (hr2 : Row w w.heap.size a2 l2) :
    Calls Tryd.prog 57 #[.slice a1 n1 c1, .slice a2 n2 c2] w fun e w' => e = .returned (.bool (decide (l1 = l2))) ∧ Below w.heap.size w w' := by
  by_cases hn : n1 = n2
  · subst hn
    have hn1 := Lib.hid hl1
    have hn2 := Lib.hid hl2
    clear hl1 hl2
    go_enter Tryd.func57, Tryd.ntmps57
    go_wp2
    go_loopw [13] (fun i wr => ∃ k : Nat, i = .int .i64 k ∧ k ≤ n1 ∧ SameTo l1 l2 k ∧ Below w.heap.size w wr) (fun i _ => n1 - (intOf i).toNat)
    case atStart => exact ⟨0, rfl, Nat.zero_le _, rfl, Below.refl _ _⟩
    case round =>
      obtain ⟨k, rfl, hk, heq, hb⟩ := hrel
      by_cases hlt : k < n1
      · obtain ⟨b1, o1, rfl, hbb1, hc1⟩ := hr1.at (by intro e; have := hn1.out; rw [e] at this; simp at this; omega)
        obtain ⟨b2, o2, rfl, hbb2, hc2⟩ := hr2.at (by intro e; have := hn2.out; rw [e] at this; simp at this; omega)
        have hx1 := hc1 k (by rw [hn1.out]; exact hlt)
        rw [← hb.cell (p := ⟨b1, o1 + k, none⟩) hbb1] at hx1
        have hx2 := hc2 k (by rw [hn2.out]; exact hlt)
        rw [← hb.cell (p := ⟨b2, o2 + k, none⟩) hbb2] at hx2
        obtain ⟨x, ex⟩ : ∃ x, x = l1.getD k 0 := ⟨_, rfl⟩
        obtain ⟨y, ey⟩ : ∃ y, y = l2.getD k 0 := ⟨_, rfl⟩
        rw [← ex] at hx1
        rw [← ey] at hx2
        replace ex := Lib.hid ex
        replace ey := Lib.hid ey
        have hlt2 : (k : Int) < (n1 : Int) := by omega
        clear hc1 hc2 hr1 hr2
        by_cases hxy : x = y
        · have hs := Lib.hid (take_same (by rw [hn1.out]; exact hlt) (by rw [hn2.out]; exact hlt) heq (by rw [← ex.out, ← ey.out]; exact hxy))
          have hxy2 : (x == y) = true := by simp [hxy]
          clear hxy
          go_wp2
          go_quiet (fail)
          go_wp2
          go_roundw
          case rel => exact ⟨k + 1, by go_num, by omega, hs.out, ⟨hb.os, hb.tape, hb.output, hb.size, hb.block⟩⟩
          case measure => simp [intOf]; omega
        · have hne : (x == y) = false := by simp [hxy]
          have hfin : false = decide (l1 = l2) := by
            symm; rw [decide_eq_false_iff_not]; intro e; subst e; exact hxy (by rw [ex.out, ey.out])
          replace hfin := Lib.hid hfin
          clear hxy
          go_wp2
          go_quiet (fail)
          go_wp2
          go_ret
          exact ⟨ret_bool hfin.out, ⟨hb.os, hb.tape, hb.output, hb.size, hb.block⟩⟩
      · have hfin : true = decide (l1 = l2) := by
          symm; rw [decide_eq_true_iff]
          have := heq
          unfold SameTo at this
          rwa [List.take_of_length_le (by rw [hn1.out]; omega), List.take_of_length_le (by rw [hn2.out]; omega)] at this
        replace hfin := Lib.hid hfin
        go_wp2
        go_ret
        exact ⟨ret_bool hfin.out, hb⟩
  · have hfin : false = decide (l1 = l2) := by
      symm; rw [decide_eq_false_iff_not]; intro e; subst e; exact hn (by omega)
    have hne : ((n1 : Int) == (n2 : Int)) = false := by simp; omega
    replace hfin := Lib.hid hfin
    go_enter Tryd.func57, Tryd.ntmps57
    go_wp2
    go_ret
    exact ⟨ret_bool hfin.out, Below.refl _ _⟩
def M.sameT (F G : List Int) (k : Nat) : Bool := decide (F.take k = G.take k)
theorem M.sameT_zero (F G : List Int) : M.sameT F G 0 = true := by unfold M.sameT; simp
theorem M.sameT_succ {F G : List Int} {k : Nat} (h1 : k < F.length) (h2 : k < G.length) : M.sameT F G (k + 1) = (M.sameT F G k && (F.getD k 0 == G.getD k 0)) := by
  unfold M.sameT
  rw [List.take_add_one, List.take_add_one, List.getElem?_eq_getElem h1, List.getElem?_eq_getElem h2, List.getD_eq_getElem?_getD, List.getD_eq_getElem?_getD, List.getElem?_eq_getElem h1, List.getElem?_eq_getElem h2]
  rw [Bool.eq_iff_iff, Bool.and_eq_true, decide_eq_true_iff, decide_eq_true_iff]
  simp only [Option.getD_some, Option.toList_some, beq_iff_eq]
  constructor
  · intro h
    have e := List.append_inj h (by rw [List.length_take, List.length_take]; omega)
    exact ⟨e.1, by simpa using e.2⟩
  · rintro ⟨h, h'⟩; rw [h, h']
theorem M.sameT_all {F G : List Int} {m : Nat} (h1 : F.length = m) (h2 : G.length = m) : M.sameT F G m = decide (F = G) := by
  unfold M.sameT
  rw [List.take_of_length_le (by omega), List.take_of_length_le (by omega)]
set_option maxRecDepth 20000 in
set_option maxHeartbeats 8000000 in
theorem impl_follow (a1 a2 a3 aj : Option Addr) (n1 c1 n2 c2 n3 c3 m cm : Nat) (l lo hi j : List Int) (X Y n : Int) (w : World) (hT : Tables w) (h1 : l.length = n1) (h2 : lo.length = n2) (h3 : hi.length = n3) (h4 : j.length = m) (hm : n1 ≤ 1000000000 ∧ n2 ≤ 1000000000 ∧ n3 ≤ 1000000000) (hm4 : m ≤ 1000000000) (hr : ArmAt w w.heap.size a1 a2 a3 l lo hi) (hj : Row w w.heap.size aj j) :
    Calls Tryd.prog 29 #[.agg #[.slice a1 n1 c1, .slice a2 n2 c2, .slice a3 n3 c3], .slice aj m cm, .agg #[.int .i64 X, .int .i64 Y], .int .i64 n] w (IntsOut w (M.fol l lo hi j X Y n)) := by
  replace h1 := Lib.hid h1
  replace h2 := Lib.hid h2
  replace h3 := Lib.hid h3
  replace h4 := Lib.hid h4
  replace hm := Lib.hid hm
  have bb := bel_new w (.cells #[.slice a1 n1 c1, .slice a2 n2 c2, .slice a3 n3 c3] 25)
  have k0 := (Cell3.new w (.slice a1 n1 c1) (.slice a2 n2 c2) (.slice a3 n3 c3) 25).alloc (.cells #[.int .i64 X, .int .i64 Y] 27)
  have kt := Slot.new (w.alloc (.cells #[.slice a1 n1 c1, .slice a2 n2 c2, .slice a3 n3 c3] 25)) X Y 27
  rw [World.size_alloc] at kt
  replace bb := bel_after bb (bel_new (w.alloc (.cells #[.slice a1 n1 c1, .slice a2 n2 c2, .slice a3 n3 c3] 25)) (.cells #[.int .i64 X, .int .i64 Y] 27))
  replace hr := Lib.hid (hr.after bb)
  replace hj := Lib.hid (hj.after bb)
  replace hT := Lib.hid (hT.later bb)
  replace bb := Lib.hid bb
  go_enter Tryd.func29, Tryd.ntmps29
  obtain ⟨x0, x1, x2, x3, x4, x5⟩ := id k0
  obtain ⟨t0, t1, t2, t3, t4⟩ := id kt
  go_wp2_with fail
  clear x0 x1 x2 x3 x4 x5 t0 t1 t2 t3 t4
  generalize (w.alloc (.cells #[.slice a1 n1 c1, .slice a2 n2 c2, .slice a3 n3 c3] 25)).alloc (.cells #[.int .i64 X, .int .i64 Y] 27) = v at *
  have hvs : w.heap.size + 1 < v.heap.size := kt.2.2.2.2
  refine (impl_joints a1 a2 a3 aj n1 c1 n2 c2 n3 c3 m cm l lo hi j _ h1.out h2.out h3.out h4.out hm.out hm4 hr.out hj.out).mono ?_
  rintro e w1 ⟨rfl, q⟩
  have z1 := q.size
  replace bb := Lib.hid (bel_after bb.out q)
  replace k0 := k0.after q
  replace kt := kt.after q
  replace hr := Lib.hid (hr.out.after q)
  replace hj := Lib.hid (hj.out.after q)
  replace hT := Lib.hid (hT.out.later q)
  clear q
  cases hA : M.jointsB l lo hi j
  · have hfin := Lib.hid (M.fol_no1 (X := X) (Y := Y) (n := n) hA)
    replace hA := Lib.hid hA
    go_wp2_with fail
    go_ret
    exact ints_fin hfin.out (Owns.nil _ _) bb.out
  replace hA := Lib.hid hA
  obtain ⟨x0, x1, x2, x3, x4, x5⟩ := id k0
  obtain ⟨t0, t1, t2, t3, t4⟩ := id kt
  go_wp2_with fail
  clear x0 x1 x2 x3 x4 x5 t0 t1 t2 t3 t4
  refine (impl_pv X Y _).mono ?_
  rintro e w2 ⟨rfl, q⟩
  have z2 := q.size
  replace bb := Lib.hid (bel_after bb.out q)
  replace k0 := k0.after q
  replace kt := kt.after q
  replace hr := Lib.hid (hr.out.after q)
  replace hj := Lib.hid (hj.out.after q)
  replace hT := Lib.hid (hT.out.later q)
  clear q
  cases hP : M.pvB X Y
  · have hfin := Lib.hid (M.fol_no2 (l := l) (lo := lo) (hi := hi) (j := j) (n := n) hP)
    replace hP := Lib.hid hP
    go_wp2_with fail
    go_ret
    exact ints_fin hfin.out (Owns.nil _ _) bb.out
  replace hP := Lib.hid hP
  by_cases hN : ¬ (0 ≤ n ∧ n ≤ 500)
  · have hfin := Lib.hid (M.fol_no3 (l := l) (lo := lo) (hi := hi) (j := j) (X := X) (Y := Y) hN)
    go_wp2_with (go_at_call 51; refine (within_no _ _ _ _ (by omega)).mono ?_; rintro e w' ⟨rfl, rfl⟩)
    go_ret
    exact ints_fin hfin.out (Owns.nil _ _) bb.out
  replace hN : 0 ≤ n ∧ n ≤ 500 := by omega
  have hfin := Lib.hid (M.fol_yes hA.out hP.out hN)
  obtain ⟨N, rfl⟩ := Int.eq_ofNat_of_zero_le hN.1
  have hN5 : N ≤ 500 := by omega
  clear hN
  replace hfin := Lib.hid (show M.folT l lo hi j X Y N = M.fol l lo hi j X Y (N : Int) from hfin.out)
  have hgood := Lib.hid (fun k => M.fol_good (X := X) (Y := Y) hA.out k)
  obtain ⟨⟨e1, e2⟩, e3, _, _⟩ := M.joints_bds hA.out
  rw [h4.out] at e1 e2 e3 hgood
  clear e3
  go_wp2_with (go_at_call 51; refine (within_yes _ _ _ _ (by omega) (by omega)).mono ?_; rintro e w' ⟨rfl, rfl⟩)
  refine (clone_ints aj m cm j _ h4.out (by omega) hj.out).mono ?_
  rintro e w3 hq
  obtain ⟨pb, db, rfl, mb, q⟩ := ints_view h4.out hq
  replace mb := Lib.hid (mb.base2 bb.out.size)
  replace bb := Lib.hid (bel_after bb.out q)
  replace k0 := k0.after q
  replace kt := kt.after q
  replace hr := Lib.hid (hr.out.after q)
  replace hj := Lib.hid (hj.out.after q)
  replace hT := Lib.hid (hT.out.later q)
  clear q hq
  go_wp2_with fail
  obtain ⟨v0, rfl⟩ : ∃ u : World, u = w3 := ⟨_, rfl⟩
  go_loopw [9, 28] (fun nv i wr => ∃ k : Nat, i = .int .i64 k ∧ k ≤ N ∧ (∃ ad cap, nv = .slice ad m cap) ∧ Hid (Owns wr w.heap.size nv (M.folT l lo hi j X Y k)) ∧ Hid (Below v0.heap.size v0 wr)) (fun _ i _ => N - (intOf i).toNat)
  case atStart => exact ⟨0, rfl, Nat.zero_le _, ⟨pb, db, rfl⟩, mb, Below.refl _ _⟩
  case round =>
    clear mb
    obtain ⟨k, rfl, hk, ⟨pn, dn, rfl⟩, mb, bc⟩ := hrel
    replace bb := Lib.hid (bel_after bb.out bc.out)
    replace k0 := k0.after bc.out
    replace kt := kt.after bc.out
    replace hr := Lib.hid (hr.out.after bc.out)
    replace hj := Lib.hid (hj.out.after bc.out)
    replace hT := Lib.hid (hT.out.later bc.out)
    by_cases hlt : k < N
    · have hk4 : (k : Int) < (N : Int) := by omega
      obtain ⟨hFl, hFv, _⟩ := hgood.out k
      have hsucc := Lib.hid (show M.folT l lo hi j X Y (k + 1) = M.stepJ l lo hi (M.folT l lo hi j X Y k) X Y from rfl)
      have hstop := Lib.hid (fun h => M.fol_stop (l := l) (lo := lo) (hi := hi) (j := j) (X := X) (Y := Y) (n := k) h N (by omega))
      have hGl := (hgood.out (k + 1)).1
      rw [hsucc.out] at hGl
      generalize M.folT l lo hi j X Y k = P at *
      have hst := Lib.hid (M.step_yes (X := X) (Y := Y) hFv hP.out)
      generalize hG : M.stepJ l lo hi P X Y = G at *
      replace hFl := Lib.hid hFl
      replace hFv := Lib.hid hFv
      replace hGl := Lib.hid hGl
      replace hG := Lib.hid hG
      obtain ⟨x0, x1, x2, x3, x4, x5⟩ := id k0
      obtain ⟨t0, t1, t2, t3, t4⟩ := id kt
      go_wp2_with fail
      clear x0 x1 x2 x3 x4 x5 t0 t1 t2 t3 t4
      refine (impl_step a1 a2 a3 pn n1 c1 n2 c2 n3 c3 m dn l lo hi P X Y _ hT.out h1.out h2.out h3.out hFl.out hm.out (by omega) hr.out mb.out.row).mono ?_
      rintro e ws hq
      rw [← hst.out] at hq
      obtain ⟨pg, dg, rfl, mg, q⟩ := ints_view hGl.out hq
      replace mg := Lib.hid (mg.base2 bb.out.size)
      replace bb := Lib.hid (bel_after bb.out q)
      replace k0 := k0.after q
      replace kt := kt.after q
      replace hr := Lib.hid (hr.out.after q)
      replace hj := Lib.hid (hj.out.after q)
      replace hT := Lib.hid (hT.out.later q)
      replace mb := Lib.hid (mb.out.after q)
      replace bc := Lib.hid (bel_after bc.out q)
      clear q hq
      obtain ⟨x0, x1, x2, x3, x4, x5⟩ := id k0
      obtain ⟨t0, t1, t2, t3, t4⟩ := id kt
      go_wp2_with fail
      clear x0 x1 x2 x3 x4 x5 t0 t1 t2 t3 t4
      refine (slices_equal pg pn m m dg dn 0 G P _ hGl.out hFl.out (by omega) mg.out.row mb.out.row).mono ?_
      rintro e we ⟨rfl, q⟩
      replace bb := Lib.hid (bel_after bb.out q)
      replace k0 := k0.after q
      replace kt := kt.after q
      replace hr := Lib.hid (hr.out.after q)
      replace hj := Lib.hid (hj.out.after q)
      replace hT := Lib.hid (hT.out.later q)
      replace mb := Lib.hid (mb.out.after q)
      replace bc := Lib.hid (bel_after bc.out q)
      replace mg := Lib.hid (mg.out.after q)
      clear q
      by_cases hE : G = P
      · have hres := Lib.hid (hstop.out hE)
        rw [decide_eq_true hE]
        clear hE
        obtain ⟨x0, x1, x2, x3, x4, x5⟩ := id k0
        obtain ⟨t0, t1, t2, t3, t4⟩ := id kt
        go_wp2_with fail
        clear x0 x1 x2 x3 x4 x5 t0 t1 t2 t3 t4
        go_ret
        exact ints_fin (hres.out.symm.trans hfin.out) mb.out bb.out
      · rw [decide_eq_false hE]
        clear hE
        obtain ⟨x0, x1, x2, x3, x4, x5⟩ := id k0
        obtain ⟨t0, t1, t2, t3, t4⟩ := id kt
        go_wp2_with fail
        clear x0 x1 x2 x3 x4 x5 t0 t1 t2 t3 t4
        go_roundw
        case rel => exact ⟨k + 1, by go_num, by omega, ⟨pg, dg, rfl⟩, by rw [hsucc.out]; exact mg, bc.out⟩
        case measure => simp [intOf]; omega
    · obtain rfl : k = N := by omega
      go_wp2_with fail
      go_ret
      exact ints_fin hfin.out mb.out bb.out
set_option maxRecDepth 20000 in
set_option maxHeartbeats 8000000 in
theorem spec_follow (a1 a2 a3 aj : Option Addr) (n1 c1 n2 c2 n3 c3 m cm : Nat) (l lo hi j : List Int) (X Y n : Int) (w : World) (h1 : l.length = n1) (h2 : lo.length = n2) (h3 : hi.length = n3) (h4 : j.length = m) (hm : n1 ≤ 1000000000 ∧ n2 ≤ 1000000000 ∧ n3 ≤ 1000000000) (hm4 : m ≤ 1000000000) (hr : ArmAt w w.heap.size a1 a2 a3 l lo hi) (hj : Row w w.heap.size aj j) :
    Calls Tryd.prog 27 #[.agg #[.slice a1 n1 c1, .slice a2 n2 c2, .slice a3 n3 c3], .slice aj m cm, .agg #[.int .i64 X, .int .i64 Y], .int .i64 n] w (IntsOut w (M.fol l lo hi j X Y n)) := by
  replace h1 := Lib.hid h1
  replace h2 := Lib.hid h2
  replace h3 := Lib.hid h3
  replace h4 := Lib.hid h4
  replace hm := Lib.hid hm
  have bb := bel_new w (.cells #[.slice a1 n1 c1, .slice a2 n2 c2, .slice a3 n3 c3] 25)
  have k0 := (Cell3.new w (.slice a1 n1 c1) (.slice a2 n2 c2) (.slice a3 n3 c3) 25).alloc (.cells #[.int .i64 X, .int .i64 Y] 27)
  have kt := Slot.new (w.alloc (.cells #[.slice a1 n1 c1, .slice a2 n2 c2, .slice a3 n3 c3] 25)) X Y 27
  rw [World.size_alloc] at kt
  replace bb := bel_after bb (bel_new (w.alloc (.cells #[.slice a1 n1 c1, .slice a2 n2 c2, .slice a3 n3 c3] 25)) (.cells #[.int .i64 X, .int .i64 Y] 27))
  replace hr := Lib.hid (hr.after bb)
  replace hj := Lib.hid (hj.after bb)
  replace bb := Lib.hid bb
  go_enter Tryd.func27, Tryd.ntmps27
  obtain ⟨x0, x1, x2, x3, x4, x5⟩ := id k0
  obtain ⟨t0, t1, t2, t3, t4⟩ := id kt
  go_wp2_with fail
  clear x0 x1 x2 x3 x4 x5 t0 t1 t2 t3 t4
  generalize (w.alloc (.cells #[.slice a1 n1 c1, .slice a2 n2 c2, .slice a3 n3 c3] 25)).alloc (.cells #[.int .i64 X, .int .i64 Y] 27) = v at *
  have hvs : w.heap.size + 1 < v.heap.size := kt.2.2.2.2
  refine (spec_joints a1 a2 a3 aj n1 c1 n2 c2 n3 c3 m cm l lo hi j _ h1.out h2.out h3.out h4.out hm.out hm4 hr.out hj.out).mono ?_
  rintro e w1 ⟨rfl, q⟩
  have z1 := q.size
  replace bb := Lib.hid (bel_after bb.out q)
  replace k0 := k0.after q
  replace kt := kt.after q
  replace hr := Lib.hid (hr.out.after q)
  replace hj := Lib.hid (hj.out.after q)
  clear q
  cases hA : M.jointsB l lo hi j
  · have hfin := Lib.hid (M.fol_no1 (X := X) (Y := Y) (n := n) hA)
    replace hA := Lib.hid hA
    have ho := Owns.made (w := w1) (B := w.heap.size) bb.out.size
    go_wp2_with fail
    go_ret
    exact ints_fin hfin.out ho (bel_after bb.out (bel_new w1 _))
  replace hA := Lib.hid hA
  obtain ⟨x0, x1, x2, x3, x4, x5⟩ := id k0
  obtain ⟨t0, t1, t2, t3, t4⟩ := id kt
  go_wp2_with fail
  clear x0 x1 x2 x3 x4 x5 t0 t1 t2 t3 t4
  refine (spec_pv X Y _).mono ?_
  rintro e w2 ⟨rfl, q⟩
  have z2 := q.size
  replace bb := Lib.hid (bel_after bb.out q)
  replace k0 := k0.after q
  replace kt := kt.after q
  replace hr := Lib.hid (hr.out.after q)
  replace hj := Lib.hid (hj.out.after q)
  clear q
  cases hP : M.pvB X Y
  · have hfin := Lib.hid (M.fol_no2 (l := l) (lo := lo) (hi := hi) (j := j) (n := n) hP)
    replace hP := Lib.hid hP
    have ho := Owns.made (w := w2) (B := w.heap.size) bb.out.size
    go_wp2_with fail
    go_ret
    exact ints_fin hfin.out ho (bel_after bb.out (bel_new w2 _))
  replace hP := Lib.hid hP
  by_cases hN : ¬ (0 ≤ n ∧ n ≤ 500)
  · have hfin := Lib.hid (M.fol_no3 (l := l) (lo := lo) (hi := hi) (j := j) (X := X) (Y := Y) hN)
    have ho := Owns.made (w := w2) (B := w.heap.size) bb.out.size
    go_wp2_with (go_at_call 53; refine (l1In_no _ _ _ _ (by omega)).mono ?_; rintro e w' ⟨rfl, rfl⟩)
    go_ret
    exact ints_fin hfin.out ho (bel_after bb.out (bel_new w2 _))
  replace hN : 0 ≤ n ∧ n ≤ 500 := by omega
  have hfin := Lib.hid (M.fol_yes hA.out hP.out hN)
  obtain ⟨N, rfl⟩ := Int.eq_ofNat_of_zero_le hN.1
  have hN5 : N ≤ 500 := by omega
  clear hN
  replace hfin := Lib.hid (show M.folT l lo hi j X Y N = M.fol l lo hi j X Y (N : Int) from hfin.out)
  have hgood := Lib.hid (fun k => M.fol_good (X := X) (Y := Y) hA.out k)
  obtain ⟨⟨e1, e2⟩, e3, _, _⟩ := M.joints_bds hA.out
  rw [h4.out] at e1 e2 e3 hgood
  clear e3
  obtain ⟨i0, hi0, hz0, hz1, hz2⟩ := info_parts infoInt
  obtain ⟨b0, o0, rfl⟩ := hj.out.form (by rw [h4.out]; omega)
  go_upto_region 3 with (go_at_call 53; refine (l1In_yes _ _ _ _ (by omega) (by omega)).mono ?_; rintro e w' ⟨rfl, rfl⟩)
  have hnews := Lib.hid (row_news hj.out (bel_new w2 (.cells #[] 3)))
  have hlit := Lib.hid (Owns.made (w := w2) (Nat.le_refl _))
  go_upto_region 4 with (at_builtin; refine wpList_append_own _ rfl _ _ 23 rfl w2.heap.size 3 i0 (.int .i64 0) 1 8 Tryd.underlying23 hi0 hz0 hz1 hz2 rfl (by decide) _ _ _ rfl hlit.out ⟨b0, o0, none⟩ m cm ((j).map (Value.int .i64)) rfl (by (rw [List.length_map, h4.out]) <;> omega) hnews.out (int_one _) (by unfold maxLen; simp; omega) (by simp; omega) (by simp) ?_)
  intro v' w9 hown hgrow _
  have mb : Owns w9 w2.heap.size v' (j) := by unfold Owns; rw [h4.out]; simpa using hown
  have q : Below w2.heap.size w2 w9 := ((Below.refl _ _).alloc (Nat.le_refl _) _).grown hgrow (Nat.le_of_lt (by simp)) (fun k hk => by simp [Value.ownBlock] at hk; omega)
  clear hown hgrow hnews hlit
  replace mb := Lib.hid (mb.base2 bb.out.size)
  replace bb := Lib.hid (bel_after bb.out q)
  replace k0 := k0.after q
  replace kt := kt.after q
  replace hr := Lib.hid (hr.out.after q)
  replace hj := Lib.hid (hj.out.after q)
  clear q
  obtain ⟨pb, db, hv, _⟩ := mb.out.view
  rw [h4.out] at hv
  subst hv
  go_wp2_with fail
  obtain ⟨v0, rfl⟩ : ∃ u : World, u = w9 := ⟨_, rfl⟩
  go_loopw [9, 10] (fun nv i wr => ∃ k : Nat, i = .int .i64 k ∧ k ≤ N ∧ (∃ ad cap, nv = .slice ad m cap) ∧ Hid (Owns wr w.heap.size nv (M.folT l lo hi j X Y k)) ∧ Hid (Below v0.heap.size v0 wr)) (fun _ i _ => N - (intOf i).toNat)
  case atStart => exact ⟨0, rfl, Nat.zero_le _, ⟨pb, db, rfl⟩, mb, Below.refl _ _⟩
  case round =>
    clear mb
    obtain ⟨k, rfl, hk, ⟨pn, dn, rfl⟩, mb, bc⟩ := hrel
    replace bb := Lib.hid (bel_after bb.out bc.out)
    replace k0 := k0.after bc.out
    replace kt := kt.after bc.out
    replace hr := Lib.hid (hr.out.after bc.out)
    replace hj := Lib.hid (hj.out.after bc.out)
    by_cases hlt : k < N
    · have hk4 : (k : Int) < (N : Int) := by omega
      obtain ⟨hFl, hFv, _⟩ := hgood.out k
      have hsucc := Lib.hid (show M.folT l lo hi j X Y (k + 1) = M.stepJ l lo hi (M.folT l lo hi j X Y k) X Y from rfl)
      have hstop := Lib.hid (fun h => M.fol_stop (l := l) (lo := lo) (hi := hi) (j := j) (X := X) (Y := Y) (n := k) h N (by omega))
      have hGl := (hgood.out (k + 1)).1
      rw [hsucc.out] at hGl
      generalize M.folT l lo hi j X Y k = P at *
      have hst := Lib.hid (M.step_yes (X := X) (Y := Y) hFv hP.out)
      generalize hG : M.stepJ l lo hi P X Y = G at *
      replace hFl := Lib.hid hFl
      replace hFv := Lib.hid hFv
      replace hGl := Lib.hid hGl
      replace hG := Lib.hid hG
      obtain ⟨x0, x1, x2, x3, x4, x5⟩ := id k0
      obtain ⟨t0, t1, t2, t3, t4⟩ := id kt
      go_wp2_with fail
      clear x0 x1 x2 x3 x4 x5 t0 t1 t2 t3 t4
      refine (spec_step a1 a2 a3 pn n1 c1 n2 c2 n3 c3 m dn l lo hi P X Y _ h1.out h2.out h3.out hFl.out hm.out (by omega) hr.out mb.out.row).mono ?_
      rintro e ws hq
      rw [← hst.out] at hq
      obtain ⟨pg, dg, rfl, mg, q⟩ := ints_view hGl.out hq
      replace mg := Lib.hid (mg.base2 bb.out.size)
      replace bb := Lib.hid (bel_after bb.out q)
      replace k0 := k0.after q
      replace kt := kt.after q
      replace hr := Lib.hid (hr.out.after q)
      replace hj := Lib.hid (hj.out.after q)
      replace mb := Lib.hid (mb.out.after q)
      replace bc := Lib.hid (bel_after bc.out q)
      clear q hq
      obtain ⟨bn, on_, rfl⟩ := mb.out.row.form (by rw [hFl.out]; omega)
      obtain ⟨bg, og, rfl⟩ := mg.out.row.form (by rw [hGl.out]; omega)
      have hs0 := M.sameT_zero P G
      have hsall := Lib.hid (M.sameT_all hFl.out hGl.out)
      obtain ⟨x0, x1, x2, x3, x4, x5⟩ := id k0
      obtain ⟨t0, t1, t2, t3, t4⟩ := id kt
      go_wp2_with fail
      clear x0 x1 x2 x3 x4 x5 t0 t1 t2 t3 t4
      obtain ⟨u1, rfl⟩ : ∃ u : World, u = ws := ⟨_, rfl⟩
      go_loopw [12, 13] (fun sv i wr => ∃ (t : Nat) (sb : Bool), i = .int .i64 t ∧ t ≤ m ∧ sv = .bool sb ∧ Hid (sb = M.sameT P G t) ∧ Hid (Below u1.heap.size u1 wr)) (fun _ i _ => m - (intOf i).toNat)
      case atStart => exact ⟨0, true, rfl, Nat.zero_le _, rfl, hs0.symm, Below.refl _ _⟩
      case round =>
        obtain ⟨t, sb, rfl, ht, rfl, hsb, bd⟩ := hrel
        replace bb := Lib.hid (bel_after bb.out bd.out)
        replace k0 := k0.after bd.out
        replace kt := kt.after bd.out
        replace hr := Lib.hid (hr.out.after bd.out)
        replace hj := Lib.hid (hj.out.after bd.out)
        replace mb := Lib.hid (mb.out.after bd.out)
        replace bc := Lib.hid (bel_after bc.out bd.out)
        replace mg := Lib.hid (mg.out.after bd.out)
        by_cases hlt2 : t < m
        · have ht4 : (t : Int) < (m : Int) := by omega
          have y1 := mb.out.row.cell (Below.refl _ _) (k := t) (by rw [hFl.out]; omega)
          have y2 := mg.out.row.cell (Below.refl _ _) (k := t) (by rw [hGl.out]; omega)
          have hsn := Lib.hid (M.sameT_succ (F := P) (G := G) (k := t) (by rw [hFl.out]; omega) (by rw [hGl.out]; omega))
          rw [← hsb.out] at hsn
          generalize P.getD t 0 = x at *
          generalize G.getD t 0 = y at *
          by_cases hxy : x = y
          · have hxy2 : (x == y) = true := by simp [hxy]
            replace hxy := hxy2
            cases sb
            · have _c := True.intro
              go_wp2_with fail
              go_quiet (fail)
              go_wp2_with fail
              go_roundw
              case rel => exact ⟨t + 1, _, by go_num, by omega, rfl, Lib.hid (by rw [hsn.out]; simp [hxy]), ⟨bd.out.os, bd.out.tape, bd.out.output, bd.out.size, bd.out.block⟩⟩
              case measure => simp [intOf]; omega
            · have _c := True.intro
              go_wp2_with fail
              go_quiet (fail)
              go_wp2_with fail
              go_roundw
              case rel => exact ⟨t + 1, _, by go_num, by omega, rfl, Lib.hid (by rw [hsn.out]; simp [hxy]), ⟨bd.out.os, bd.out.tape, bd.out.output, bd.out.size, bd.out.block⟩⟩
              case measure => simp [intOf]; omega
          · have hxy2 : (x == y) = false := by simp [hxy]
            replace hxy := hxy2
            cases sb
            · have _c := True.intro
              go_wp2_with fail
              go_quiet (fail)
              go_wp2_with fail
              go_roundw
              case rel => exact ⟨t + 1, _, by go_num, by omega, rfl, Lib.hid (by rw [hsn.out]; simp [hxy]), ⟨bd.out.os, bd.out.tape, bd.out.output, bd.out.size, bd.out.block⟩⟩
              case measure => simp [intOf]; omega
            · have _c := True.intro
              go_wp2_with fail
              go_quiet (fail)
              go_wp2_with fail
              go_roundw
              case rel => exact ⟨t + 1, _, by go_num, by omega, rfl, Lib.hid (by rw [hsn.out]; simp [hxy]), ⟨bd.out.os, bd.out.tape, bd.out.output, bd.out.size, bd.out.block⟩⟩
              case measure => simp [intOf]; omega
        · obtain rfl : t = m := by omega
          rw [hsall.out] at hsb
          by_cases hE : P = G
          · have hres := Lib.hid (hstop.out hE.symm)
            obtain rfl : sb = true := by rw [hsb.out]; exact decide_eq_true hE
            clear hE
            go_wp2_with fail
            go_ret
            exact ints_fin (hres.out.symm.trans hfin.out) mb.out bb.out
          · obtain rfl : sb = false := by rw [hsb.out]; exact decide_eq_false hE
            clear hE
            go_wp2_with fail
            go_roundw
            case rel => exact ⟨k + 1, by go_num, by omega, ⟨_, dg, rfl⟩, by rw [hsucc.out]; exact mg, bc.out⟩
            case measure => simp [intOf]; omega
    · obtain rfl : k = N := by omega
      go_wp2_with fail
      go_ret
      exact ints_fin hfin.out mb.out bb.out
end Go.Proofs.YtmainffjekjlnaaDoor
