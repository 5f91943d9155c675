/- Proves the tied card of the law FnReachSolve: it returns true for every input, the tables of the sine being as laid by the program text. -/
import Derived.Test.YtmainffjekjlnaaDoorCards
import Derived.Test.YtmainffjekjlnaaDoorTie
import Derived.Test.YtmainffjekjlnaaDoorLaid
import Derived.Test.YtmainffjekjlnaaDoorSolveS
import Derived.Test.YtmainffjekjlnaaDoorDrawSolve
import Derived.Test.YtmainffjekjlnaaDoorTipMath
import Derived.Test.YtmainffjekjlnaaDoorRootA
import Derived.Test.YtmainffjekjlnaaDoorAlive
import Derived.ChangeOld
import Derived.ShutString
import Derived.Lib.SmallJoins
import Derived.LaidMore
import Derived.Stop.Joined
import Derived.SevenTiedAt
import Derived.Deep.RegionHeld3
import Derived.Deep.DeepCutAuto
import Derived.Deep.CutBlock
namespace Go.Proofs.YtmainffjekjlnaaDoor.fnReachSolve
open Go.ChangeShapes Go.WideShapes Go.ChangeAt Go.RowKit
set_option linter.unusedVariables false
theorem M.joints_low {l lo hi : List Int} (h : M.armB l lo hi = true) : M.jointsB l lo hi lo = true := by
  obtain ⟨⟨_, e3, _⟩, hv⟩ := M.armB_true h
  refine (M.joints_ok h (by omega) (fun k hk => ?_)).symm
  have := hv k (by omega)
  exact M.inB_iff.2 ⟨Int.le_refl _, by omega⟩
theorem M.sq_tip {l lo hi j : List Int} (X Y : Int) (h : M.jointsB l lo hi j = true) : M.sq (M.tipX l lo hi j) (M.tipY l lo hi j) X Y = M.score l j X Y := by
  unfold M.score
  rw [(M.tip_yes h).1, (M.tip_yes h).2]
theorem M.solve_len (l lo hi : List Int) (X Y : Int) : (M.solve l lo hi X Y).length ≤ 2 := by
  unfold M.solve
  split
  · rename_i h
    obtain ⟨u, v, e, _⟩ := M.found_best (X := X) (Y := Y) h.1 h.2.1
    rw [e]; exact Nat.le_refl _
  · exact Nat.zero_le _
theorem M.solve_ne {l lo hi : List Int} {X Y : Int} (h : ¬ (M.solve l lo hi X Y).length = 0) : M.fits l lo hi X Y ∧ (M.solve l lo hi X Y).length = 2 ∧ M.jointsB l lo hi (M.solve l lo hi X Y) = true ∧ ∀ j, M.jointsB l lo hi j = true → M.score l (M.solve l lo hi X Y) X Y ≤ M.score l j X Y := by
  by_cases hk : M.fits l lo hi X Y
  · obtain ⟨u, v, e, h1, h2⟩ := M.found_best (X := X) (Y := Y) hk.1 hk.2.1
    rw [← M.solve_yes hk, e]
    exact ⟨hk, rfl, h1, h2⟩
  · exfalso; apply h; rw [← M.solve_no hk]; rfl
set_option maxRecDepth 20000 in
set_option maxHeartbeats 8000000 in
theorem walk (a0 : Option Addr) (len0 cap0 : Nat) (z0 : List Int) (w : World) (w0 : IsRow .u8 w a0 len0 cap0 z0) (hT : Tables w) :
    Calls Tryd.prog 3 #[.slice a0 len0 cap0] w fun e w' => e = .returned (.bool true) ∧ Below w.heap.size w w' := by
  replace hT := Lib.hid hT
  by_cases hlen : (1048576 : Int) < len0
  · go_enter Tryd.func3, Tryd.ntmps3
    go_wp2
    go_ret
    exact ⟨rfl, Below.refl _ _⟩
  · go_enter Tryd.func3, Tryd.ntmps3
    go_wp2_with fail
    refine (draw_SolveArm a0 len0 cap0 z0 _ w0).mono ?_
    rintro e w1 ⟨a1, n1, c1, a2, n2, c2, a3, n3, c3, l, lo, hi, X, Y, rfl, hf, q⟩
    have bb := Lib.hid q
    clear w0 hlen q
    replace hT := Lib.hid (hT.out.later bb.out)
    obtain ⟨h1, h2, h3⟩ := hf.len
    obtain ⟨m1, m2, m3⟩ := hf.le
    obtain ⟨cp1, cp3⟩ := hf.cap
    have hr := Lib.hid hf.row
    have hr1 := hr
    have bc := Lib.hid (Below.refl w1.heap.size w1)
    have hq1 := bb
    replace h1 := Lib.hid h1
    replace h2 := Lib.hid h2
    replace h3 := Lib.hid h3
    clear hf
    have hnb : (M.solve l lo hi X Y).length ≤ 1000000 := (by have := M.solve_len l lo hi X Y; omega)
    obtain ⟨nL, hn⟩ : ∃ n, (M.solve l lo hi X Y).length = n := ⟨_, rfl⟩
    rw [hn] at hnb
    generalize hL : M.solve l lo hi X Y = L at *
    replace hL := Lib.hid hL
    replace hn := Lib.hid hn
    go_wp2_with fail
    have k0 := (Cell3.new w1 (.slice a1 n1 c1) (.slice a2 n2 c2) (.slice a3 n3 c3) 25).alloc (.cells #[.int .i64 X, .int .i64 Y] 27)
    have kp := Slot.new (w1.alloc (.cells #[.slice a1 n1 c1, .slice a2 n2 c2, .slice a3 n3 c3] 25)) X Y 27
    rw [World.size_alloc] at kp
    replace bb := Lib.hid (bel_after bb.out (bel_new w1 (.cells #[.slice a1 n1 c1, .slice a2 n2 c2, .slice a3 n3 c3] 25)))
    replace hT := Lib.hid (hT.out.later (bel_new w1 (.cells #[.slice a1 n1 c1, .slice a2 n2 c2, .slice a3 n3 c3] 25)))
    replace hr := Lib.hid (hr.out.after (bel_new w1 (.cells #[.slice a1 n1 c1, .slice a2 n2 c2, .slice a3 n3 c3] 25)))
    replace bc := Lib.hid (bel_after bc.out (bel_new w1 (.cells #[.slice a1 n1 c1, .slice a2 n2 c2, .slice a3 n3 c3] 25)))
    replace bb := Lib.hid (bel_after bb.out (bel_new (w1.alloc (.cells #[.slice a1 n1 c1, .slice a2 n2 c2, .slice a3 n3 c3] 25)) (.cells #[.int .i64 X, .int .i64 Y] 27)))
    replace hT := Lib.hid (hT.out.later (bel_new (w1.alloc (.cells #[.slice a1 n1 c1, .slice a2 n2 c2, .slice a3 n3 c3] 25)) (.cells #[.int .i64 X, .int .i64 Y] 27)))
    replace hr := Lib.hid (hr.out.after (bel_new (w1.alloc (.cells #[.slice a1 n1 c1, .slice a2 n2 c2, .slice a3 n3 c3] 25)) (.cells #[.int .i64 X, .int .i64 Y] 27)))
    replace bc := Lib.hid (bel_after bc.out (bel_new (w1.alloc (.cells #[.slice a1 n1 c1, .slice a2 n2 c2, .slice a3 n3 c3] 25)) (.cells #[.int .i64 X, .int .i64 Y] 27)))
    generalize hK : w1.heap.size = K at k0 kp ⊢
    have hKw : w1.heap.size ≤ K := Nat.le_of_eq hK
    clear hK
    generalize (w1.alloc (.cells #[.slice a1 n1 c1, .slice a2 n2 c2, .slice a3 n3 c3] 25)).alloc (.cells #[.int .i64 X, .int .i64 Y] 27) = v at *
    obtain ⟨w2, rfl⟩ : ∃ u : World, u = v := ⟨_, rfl⟩
    refine (impl_solve a1 a2 a3 n1 c1 n2 c2 n3 c3 l lo hi X Y _ hT.out h1.out h2.out h3.out (by omega) hr.out).mono ?_
    rintro e w3 hq
    rw [hL.out] at hq
    obtain ⟨xg, yg, rfl, mg, q⟩ := ints_view hn.out hq
    replace bb := Lib.hid (bel_after bb.out q)
    replace hT := Lib.hid (hT.out.later q)
    replace hr := Lib.hid (hr.out.after q)
    replace bc := Lib.hid (bel_after bc.out q)
    replace k0 := k0.after q
    replace kp := kp.after q
    clear q hq
    replace mg := Lib.hid mg
    obtain ⟨k0x, k0y, k0z, k0u, k0v, k0w⟩ := id k0
    obtain ⟨kpx, kpy, kpz, kpu, kpv⟩ := id kp
    go_wp2_with fail
    clear k0x k0y k0z k0u k0v k0w kpx kpy kpz kpu kpv
    refine (spec_solve a1 a2 a3 n1 c1 n2 c2 n3 c3 l lo hi X Y _ h1.out h2.out h3.out (by omega) hr.out).mono ?_
    rintro e w4 hq
    rw [hL.out] at hq
    obtain ⟨xw, yw, rfl, mw, q⟩ := ints_view hn.out hq
    replace bb := Lib.hid (bel_after bb.out q)
    replace hT := Lib.hid (hT.out.later q)
    replace hr := Lib.hid (hr.out.after q)
    replace bc := Lib.hid (bel_after bc.out q)
    replace k0 := k0.after q
    replace kp := kp.after q
    replace mg := Lib.hid (mg.out.after q)
    clear q hq
    replace mw := Lib.hid mw
    obtain ⟨k0x, k0y, k0z, k0u, k0v, k0w⟩ := id k0
    obtain ⟨kpx, kpy, kpz, kpu, kpv⟩ := id kp
    go_wp2_with fail
    clear k0x k0y k0z k0u k0v k0w kpx kpy kpz kpu kpv
    refine (same_ints_yes xg xw nL yg yw L _ hn.out (by omega) mg.out.row mw.out.row).mono ?_
    rintro e w5 ⟨rfl, q⟩
    have z5 := q.size
    replace bb := Lib.hid (bel_after bb.out q)
    replace hT := Lib.hid (hT.out.later q)
    replace hr := Lib.hid (hr.out.after q)
    replace bc := Lib.hid (bel_after bc.out q)
    replace k0 := k0.after q
    replace kp := kp.after q
    replace mg := Lib.hid (mg.out.after q)
    replace mw := Lib.hid (mw.out.after q)
    clear q
    clear mw
    by_cases hz : nL = 0
    · have hz2 : ((nL : Int) == 0) = true := by simp [hz]
      replace hz := Lib.hid hz
      obtain ⟨x0, x1, x2, x3, x4, x5⟩ := id k0
      obtain ⟨t0, t1, t2, t3, t4⟩ := id kp
      go_wp2_with (go_at_call 13; refine (alive _).mono ?_; rintro e w' ⟨rfl, rfl⟩)
      go_ret
      exact ⟨rfl, bb.out⟩
    · have hz2 : ((nL : Int) == 0) = false := by simp; exact hz
      obtain ⟨⟨hA, hl2, hP, hfit⟩, hL2, hgL, hbest⟩ := M.solve_ne (l := l) (lo := lo) (hi := hi) (X := X) (Y := Y) (by rw [hL.out, hn.out]; exact hz)
      rw [hL.out] at hL2 hgL hbest
      rw [hn.out] at hL2
      subst hL2
      clear hz
      have hlowj := Lib.hid (M.joints_low hA)
      have hsL := Lib.hid (M.sq_tip X Y hgL)
      obtain ⟨⟨⟨e1, e2⟩, e3, e4⟩, hv⟩ := M.armB_true hA
      rw [h1.out] at e3 e4 hl2
      rw [h2.out] at e3
      rw [h3.out] at e4
      clear e1 e2
      have en1 : n1 = 2 := hl2
      have en2 : n2 = 2 := by omega
      have en3 : n3 = 2 := by omega
      clear e3 e4 hl2
      replace hA := Lib.hid hA
      replace hP := Lib.hid hP
      replace hfit := Lib.hid hfit
      replace hgL := Lib.hid hgL
      replace hbest := Lib.hid hbest
      replace hv := Lib.hid hv
      replace en1 := Lib.hid en1
      replace en2 := Lib.hid en2
      replace en3 := Lib.hid en3
      have hlen := h1.out.trans en1.out
      have hfar := (M.reach_yes hA.out).1
      rw [hlen] at hfar
      have v0 := (hv.out 0 (by omega)).1
      have v1 := (hv.out 1 (by omega)).1
      have hsum : M.sumT l 2 = 0 + l.getD 0 0 + l.getD 1 0 := rfl
      have ht := M.tip_far (l := l) (j := L) (k := 2) (fun i hi => (hv.out i (by omega)).1)
      have hpt := M.tip_pv hgL.out
      rw [hn.out] at hpt
      have hsc : M.score l L X Y = (M.pxT l L 2 - X) * (M.pxT l L 2 - X) + (M.pyT l L 2 - Y) * (M.pyT l L 2 - Y) := by unfold M.score; rw [hn.out, M.sq_yes hpt hP.out]
      have hs0 := Lib.hid (show M.sq 0 0 X Y = X * X + Y * Y from by rw [M.sq_yes (M.pvB_true.2 (by omega)) hP.out, Int.zero_sub, Int.zero_sub, Int.neg_mul_neg, Int.neg_mul_neg])
      have hgapl := Lib.hid (fun (away : Int) (h0 : 0 ≤ away) (h : away * away ≤ X * X + Y * Y) => M.gap_le (F := M.sumT l 2 + 2) (gap := max 0 (away - (M.sumT l 2 + 2))) (by omega) rfl ht h0 h)
      rw [← hsc, ← hfar] at hgapl
      obtain ⟨fr, hfr⟩ : ∃ fr, M.far l lo hi = fr := ⟨_, rfl⟩
      have hfr2 : 0 ≤ fr ∧ fr ≤ 1000 := by omega
      clear hsc ht hpt hfar hsum v0 v1 hbest hlowj
      rw [hfr] at hgapl
      replace hfr := Lib.hid hfr
      obtain ⟨⟨⟨gg1, gg2⟩, gg3, gg4⟩, ⟨gg5, gg6⟩, gg7, gg8⟩ := M.sq_bd (a := 0) (b := 0) (c := X) (d := Y) (M.pvB_true.2 (by omega)) hP.out
      have nn1 := sq_nn X
      have nn2 := sq_nn Y
      rw [Int.zero_sub, Int.neg_mul_neg] at gg5 gg6
      rw [Int.zero_sub, Int.neg_mul_neg] at gg7 gg8
      have hS : Hid (M.score l L X Y = M.score l L X Y) := rfl
      generalize M.score l L X Y = SL at *
      clear hS
      obtain ⟨k0x, k0y, k0z, k0u, k0v, k0w⟩ := id k0
      obtain ⟨kpx, kpy, kpz, kpu, kpv⟩ := id kp
      go_wp2_with fail
      clear k0x k0y k0z k0u k0v k0w kpx kpy kpz kpu kpv
      refine (impl_reach a1 a2 a3 n1 c1 n2 c2 n3 c3 l lo hi _ h1.out h2.out h3.out (by omega) hr.out).mono ?_
      rintro e w6 ⟨rfl, q⟩
      have z6 := q.size
      replace bb := Lib.hid (bel_after bb.out q)
      replace hT := Lib.hid (hT.out.later q)
      replace hr := Lib.hid (hr.out.after q)
      replace bc := Lib.hid (bel_after bc.out q)
      replace k0 := k0.after q
      replace kp := kp.after q
      replace mg := Lib.hid (mg.out.after q)
      clear q
      rw [hfr.out]
      obtain ⟨k0x, k0y, k0z, k0u, k0v, k0w⟩ := id k0
      obtain ⟨kpx, kpy, kpz, kpu, kpv⟩ := id kp
      go_wp2_with fail
      clear k0x k0y k0z k0u k0v k0w kpx kpy kpz kpu kpv
      refine (impl_sq 0 0 X Y _).mono ?_
      rintro e w7 ⟨rfl, q⟩
      have z7 := q.size
      replace bb := Lib.hid (bel_after bb.out q)
      replace hT := Lib.hid (hT.out.later q)
      replace hr := Lib.hid (hr.out.after q)
      replace bc := Lib.hid (bel_after bc.out q)
      replace k0 := k0.after q
      replace kp := kp.after q
      replace mg := Lib.hid (mg.out.after q)
      clear q
      rw [hs0.out]
      obtain ⟨k0x, k0y, k0z, k0u, k0v, k0w⟩ := id k0
      obtain ⟨kpx, kpy, kpz, kpu, kpv⟩ := id kp
      go_wp2_with fail
      clear k0x k0y k0z k0u k0v k0w kpx kpy kpz kpu kpv
      refine (impl_root (X * X + Y * Y) _).mono ?_
      rintro e w' ⟨away, rfl, hroot, rfl⟩
      unfold IsRoot at hroot
      rw [if_pos (by omega)] at hroot
      obtain ⟨r1, r2, _⟩ := hroot
      have r3 := root_small r1 r2 (by omega)
      have hgl := hgapl.out away r1 r2
      clear r2 hgapl
      have ew1 : IntKind.i64.wrap (away - fr) = away - fr := IntWalk.i64_in _ (by omega)
      have ew2 : IntKind.i64.wrap (away - fr - 2) = away - fr - 2 := IntWalk.i64_in _ (by omega)
      by_cases hpos : 0 < away - fr - 2
      · have hgv : max 0 (away - (fr + 2)) = away - fr - 2 := by omega
        rw [hgv] at hgl
        clear hgv
        obtain ⟨hq1, hq2⟩ := sq_bd (r := away - fr - 2) (B := 1000000) (by omega) (by omega)
        have ewq : IntKind.i64.wrap ((away - fr - 2) * (away - fr - 2)) = (away - fr - 2) * (away - fr - 2) := IntWalk.i64_in _ (by omega)
        have hge : decide (SL ≥ (away - fr - 2) * (away - fr - 2)) = true := by simp; omega
        obtain ⟨k0x, k0y, k0z, k0u, k0v, k0w⟩ := id k0
        obtain ⟨kpx, kpy, kpz, kpu, kpv⟩ := id kp
        go_wp2_with fail
        clear k0x k0y k0z k0u k0v k0w kpx kpy kpz kpu kpv
        replace bb := Lib.hid (bel_after bb.out (bel_drew _))
        replace hT := Lib.hid (hT.out.later (bel_drew _))
        replace hr := Lib.hid (hr.out.after (bel_drew _))
        replace bc := Lib.hid (bel_after bc.out (bel_drew _))
        replace k0 := k0.after (bel_drew _)
        replace kp := kp.after (bel_drew _)
        replace mg := Lib.hid (mg.out.after (bel_drew _))
        have s := And.intro (And.intro k0.c0 (And.intro k0.c1 k0.c2)) (And.intro kp.1 kp.2.1)
        go_region_held3 (fun w' => (w'.cell? ⟨K, 0, none⟩ = some (.slice a1 n1 c1) ∧ w'.cell? ⟨K, 1, none⟩ = some (.slice a2 n2 c2) ∧ w'.cell? ⟨K, 2, none⟩ = some (.slice a3 n3 c3)) ∧ (w'.cell? ⟨K + 1, 0, none⟩ = some (.int .i64 X) ∧ w'.cell? ⟨K + 1, 1, none⟩ = some (.int .i64 Y))) (first | (with_reducible assumption) | go_keep) (first | (go_at_call 17; refine (impl_tipOf a1 a2 a3 _ n1 c1 n2 c2 n3 c3 2 yg l lo hi L _ hT.out h1.out h2.out h3.out hn.out (by omega) (by omega) hr.out mg.out.row).mono ?_; rintro e wt0 ⟨rfl, q⟩; replace bb := Lib.hid (bel_after bb.out q); replace hT := Lib.hid (hT.out.later q); replace hr := Lib.hid (hr.out.after q); replace bc := Lib.hid (bel_after bc.out q); replace k0 := k0.after q; replace kp := kp.after q; replace mg := Lib.hid (mg.out.after q); clear q s; have s := And.intro (And.intro k0.c0 (And.intro k0.c1 k0.c2)) (And.intro kp.1 kp.2.1)) | (go_at_call 16; refine (impl_sq _ _ X Y _).mono ?_; rintro e wq0 ⟨rfl, q⟩; rw [hsL.out]; replace bb := Lib.hid (bel_after bb.out q); replace hT := Lib.hid (hT.out.later q); replace hr := Lib.hid (hr.out.after q); replace bc := Lib.hid (bel_after bc.out q); replace k0 := k0.after q; replace kp := kp.after q; replace mg := Lib.hid (mg.out.after q); clear q s; have s := And.intro (And.intro k0.c0 (And.intro k0.c1 k0.c2)) (And.intro kp.1 kp.2.1)))
        all_goals
          go_wp2_with fail
          go_ret
          exact ⟨rfl, bb.out⟩
      · have hgv : max 0 (away - (fr + 2)) = 0 := by omega
        rw [hgv] at hgl
        clear hgv
        have ewq : IntKind.i64.wrap 0 = 0 := rfl
        have hge : decide (SL ≥ 0) = true := by simp; omega
        obtain ⟨k0x, k0y, k0z, k0u, k0v, k0w⟩ := id k0
        obtain ⟨kpx, kpy, kpz, kpu, kpv⟩ := id kp
        go_wp2_with fail
        clear k0x k0y k0z k0u k0v k0w kpx kpy kpz kpu kpv
        replace bb := Lib.hid (bel_after bb.out (bel_drew _))
        replace hT := Lib.hid (hT.out.later (bel_drew _))
        replace hr := Lib.hid (hr.out.after (bel_drew _))
        replace bc := Lib.hid (bel_after bc.out (bel_drew _))
        replace k0 := k0.after (bel_drew _)
        replace kp := kp.after (bel_drew _)
        replace mg := Lib.hid (mg.out.after (bel_drew _))
        have s := And.intro (And.intro k0.c0 (And.intro k0.c1 k0.c2)) (And.intro kp.1 kp.2.1)
        go_region_held3 (fun w' => (w'.cell? ⟨K, 0, none⟩ = some (.slice a1 n1 c1) ∧ w'.cell? ⟨K, 1, none⟩ = some (.slice a2 n2 c2) ∧ w'.cell? ⟨K, 2, none⟩ = some (.slice a3 n3 c3)) ∧ (w'.cell? ⟨K + 1, 0, none⟩ = some (.int .i64 X) ∧ w'.cell? ⟨K + 1, 1, none⟩ = some (.int .i64 Y))) (first | (with_reducible assumption) | go_keep) (first | (go_at_call 17; refine (impl_tipOf a1 a2 a3 _ n1 c1 n2 c2 n3 c3 2 yg l lo hi L _ hT.out h1.out h2.out h3.out hn.out (by omega) (by omega) hr.out mg.out.row).mono ?_; rintro e wt0 ⟨rfl, q⟩; replace bb := Lib.hid (bel_after bb.out q); replace hT := Lib.hid (hT.out.later q); replace hr := Lib.hid (hr.out.after q); replace bc := Lib.hid (bel_after bc.out q); replace k0 := k0.after q; replace kp := kp.after q; replace mg := Lib.hid (mg.out.after q); clear q s; have s := And.intro (And.intro k0.c0 (And.intro k0.c1 k0.c2)) (And.intro kp.1 kp.2.1)) | (go_at_call 16; refine (impl_sq _ _ X Y _).mono ?_; rintro e wq0 ⟨rfl, q⟩; rw [hsL.out]; replace bb := Lib.hid (bel_after bb.out q); replace hT := Lib.hid (hT.out.later q); replace hr := Lib.hid (hr.out.after q); replace bc := Lib.hid (bel_after bc.out q); replace k0 := k0.after q; replace kp := kp.after q; replace mg := Lib.hid (mg.out.after q); clear q s; have s := And.intro (And.intro k0.c0 (And.intro k0.c1 k0.c2)) (And.intro kp.1 kp.2.1)))
        all_goals
          go_wp2_with fail
          go_ret
          exact ⟨rfl, bb.out⟩
theorem own : ownKnob Tryd.prog.godebug = none := by kernel_rfl
theorem laidOut : laidOutB Tryd.prog = true := by kernel_rfl
set_option maxRecDepth 100000 in
theorem lifted (os : Os) (started : os.Started) (H : Type) (enc : TypeId × Value → H) :
    ReturnsInHanded {} Tryd.checked os 3 .any (fun w args => (Rows.fnReachSolveSpec.pre enc Tryd.prog Tryd.f3 [] false w args ∧ laidMetH Tryd.prog laid3 w) ∧ sizedMet enc Tryd.prog Tryd.f3 (OpenSpec.ofChange Rows.fnReachSolveSpec) false w args)
      (Rows.fnReachSolveSpec.post enc Tryd.prog Tryd.f3 false true false false) := by
  refine returnsInHanded_of_change_and (C := Tryd.checked) (X := fun w _ => laidMetH Tryd.prog laid3 w) (fun _ _ _ hh h => h.of_heap hh) own started (by kernel_rfl) Tryd.func3
    (ChangeSpec.witness_shaped (enc := enc) (C := Tryd.checked) (os := os) (X := fun w _ => laidMetH Tryd.prog laid3 w) false (World.doorLaid Tryd.prog 24 os) #[.slice none 0 0] 8 rfl (World.shaped_of_RefB (by kernel_rfl) (by kernel_rfl)) (by kernel_rfl) (by kernel_rfl) (by kernel_rfl) (door_met os _)) ?_
  intro W base args ds gs before hval0 hW _ _ hL _
  have hval : ∀ (j : Nat) t v, Tryd.f3.params[j]? = some t → args[j]? = some v → Value.okWide Tryd.prog W .any base t v := hval0
  have hW' := hW
  obtain ⟨p, q, hA0, hV, rfl, hfz, hnd⟩ := hW
  have hA : DataW.TrodAll enc Tryd.prog W 0 (fun _ => true) true Tryd.f3.params.toList args.toList ds p := hA0
  rw [Tryd.params3] at hA hval
  obtain ⟨v0_, vs0, d0, ds0, p0, q0, hargs, rfl, rfl, h0, r0⟩ := trodAll_cons hA
  obtain ⟨rfl, rfl, rfl⟩ := trodAll_nil r0
  obtain rfl : args = #[v0_] := by cases args; simp_all
  obtain ⟨rfl, rfl⟩ := trodVars_none hV
  obtain ⟨a0, len0, cap0, rfl⟩ := okWide_slice Tryd.underlying22 (hval 0 22 v0_ rfl rfl)
  have k0 := h0
  have lt0 : ∀ x ∈ p0, x.block < W.heap.size := by obtain ⟨m, hm⟩ := k0; exact DataW.trod_lt m _ _ _ hm
  obtain ⟨z0, w0⟩ : ∃ zs, IsRow .u8 W a0 len0 cap0 zs := by
    obtain ⟨fuel, hf⟩ := h0
    rcases open_ints Tryd.underlying22 Tryd.underlying5 (by kernel_rfl) hf with ⟨hcs, _⟩ | ⟨x, l, c, zs, hcs, _, hl, hm, hz, _, hcell, hwz⟩
    · simp [Value.cells] at hcs
      obtain ⟨rfl, rfl, rfl⟩ := hcs
      exact ⟨[], .inl ⟨rfl, rfl, rfl, rfl⟩⟩
    · simp [Value.cells] at hcs
      obtain ⟨rfl, rfl, rfl⟩ := hcs
      exact ⟨zs, .inr ⟨_, rfl, hl, hm, by simpa using hz, hcell, hwz⟩⟩
  clear hA0 hval0
  refine (walk a0 len0 cap0 z0 W w0 (of_laid hL)).mono fun e W' ⟨he, bel⟩ => ?_
  subst he
  exact ⟨_, rfl, _, _, _, [], _, [], hW', trodAll_mk1 (shut_bool Tryd.underlying4 _), (trodAll_cons_mk (Below.trod laidOut (by kernel_rfl) (of_decide_eq_true (by kernel_rfl)) k0 bel lt0) trodAll_mk0), rfl, bel.frame _, fun h => by cases h⟩
theorem over : Rows.FnReachSolveSaid :=
  OpenClaim.holds_of_wide 3 Tryd.f3 rfl rfl rfl rfl rfl rfl rfl ⟨rfl, rfl, rfl, rfl, rfl⟩ rfl rfl rfl rfl rfl (by kernel_rfl) Tryd.func3 (by kernel_rfl)
    (of_decide_eq_true (by kernel_rfl)) (by unfold Func.isWrapper; first | (rw [if_pos (by decide +kernel)]; kernel_rfl) | (rw [if_neg (by decide +kernel)]; exact ⟨rfl, rfl⟩))
    (fun os started H enc _ => lifted os started H enc)
theorem proved : Rows.FnReachSolveCardSaid :=
  Claim7.holds_tied_plain_at .later [] [.data, .data, .data] true (true, "93a7d8943fba560fcf8c7ca76f507c19b15707da8092a46e0532a4902c1ccc6d") false
    over (fun _ h => by cases h) (by kernel_rfl) (fun _ h => by cases h) fnReachSolve_row_tie rfl ⟨rfl, rfl⟩ (by kernel_rfl) rfl
    (fun f fn hf hfn => by
      obtain rfl : f = 3 := Option.some.inj ((show Tryd.prog.funcNamed "loop.example/robotcell/laws.FnReachSolve" = some 3 by kernel_rfl).symm.trans hf) |>.symm
      obtain rfl : fn = Tryd.f3 := (Option.some.inj (Tryd.func3.symm.trans hfn)).symm
      exact ⟨by kernel_rfl, fun j t ht => by
        rw [Tryd.params3] at ht
        have hm : t ∈ [22] := by simpa using Array.mem_of_getElem? ht
        have hall : ([22].all fun u => !Tryd.prog.wantsStandIn u) = true := by kernel_rfl
        exact (show Tryd.prog.wantsStandIn t = false by simpa using List.all_eq_true.1 hall t hm)⟩)
    (by kernel_rfl)
#print axioms proved
end Go.Proofs.YtmainffjekjlnaaDoor.fnReachSolve
