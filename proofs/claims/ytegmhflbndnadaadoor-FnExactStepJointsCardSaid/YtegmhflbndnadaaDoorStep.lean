/- Contracts of the steps of an arm towards a point, in both packages. -/
import Derived.Test.YtegmhflbndnadaaDoorTips
import Derived.Test.YtegmhflbndnadaaDoorStepMath
import Derived.Test.YtegmhflbndnadaaDoorAt
import Derived.Deep.RegionHeld3
import Derived.Deep.DeepCutAuto
namespace Go.Proofs.YtegmhflbndnadaaDoor
open Go.ChangeShapes Go.WideShapes Go.ChangeAt Go.RowKit
set_option linter.unusedVariables false
theorem ints_fin {w w' : World} {v : Value} {l l' : List Int} (he : l' = l) (ho : Owns w' w.heap.size v l') (hb : Below w.heap.size w w') : IntsOut w l (.returned v) w' := ⟨v, rfl, he ▸ ho, hb⟩
theorem Box.two {w : World} {k : Nat} (h : Box w k (-1) 1) (i : Nat) (hi : i < 2) : w.cell? ⟨k, i, none⟩ = some (.int .i64 (2 * (i : Int) - 1)) := by
  have : i = 0 ∨ i = 1 := by omega
  rcases this with rfl | rfl
  · exact h.1
  · exact h.2.1
theorem slotAt {w : World} {B n c : Nat} {a : Option Addr} {l : List Int} (h : Owns w B (.slice a n c) l) (hn : l.length = n) (hp : 0 < n) : ∃ g, a = some ⟨g, 0, none⟩ := by
  rcases h.2 with ⟨h2, h3⟩ | ⟨g, cap', cur, h2, _⟩
  · omega
  · injection h2 with h2; exact ⟨g, h2⟩
theorem impl_tipV (a1 a2 a3 aj : Option Addr) (n1 c1 n2 c2 n3 c3 m cm : Nat) (l lo hi j : List Int) (w : World) (hT : Tables w) (h1 : l.length = n1) (h4 : j.length = m) (hv : M.jointsB l lo hi j = true) (hr : ArmAt w w.heap.size a1 a2 a3 l lo hi) (hj : Row w w.heap.size aj j) :
    Calls Tryd.prog 41 #[.agg #[.slice a1 n1 c1, .slice a2 n2 c2, .slice a3 n3 c3], .slice aj m cm] w fun e w' => e = .returned (.agg #[.int .i64 (M.pxT l j m), .int .i64 (M.pyT l j m)]) ∧ Below w.heap.size w w' := by
  obtain ⟨⟨e1, e2⟩, e3, bl, bj⟩ := M.joints_bds hv
  rw [h4] at e1 e2 e3 bl bj
  rw [h1] at e3
  exact impl_tip a1 a2 a3 aj n1 c1 n2 c2 n3 c3 m cm l j w hT h1 h4 (by omega) e2 hr.1 hj (fun i hi => by have := bl i hi; omega) (fun i hi => by have := bj i hi; omega)
theorem impl_score (l lo hi j : List Int) (m : Nat) (X Y : Int) (w : World) (h4 : j.length = m) (hv : M.jointsB l lo hi j = true) (hP : M.pvB X Y = true) :
    Calls Tryd.prog 47 #[.agg #[.int .i64 (M.pxT l j m), .int .i64 (M.pyT l j m)], .agg #[.int .i64 X, .int .i64 Y]] w fun e w' => e = .returned (.int .i64 (M.score l j X Y)) ∧ Below w.heap.size w w' := by
  have ht := M.tip_pv hv
  unfold M.score
  rw [h4] at ht ⊢
  rw [M.sq_yes ht hP]
  exact impl_square _ _ _ _ _ ht hP
theorem spec_tipV (a1 a2 a3 aj : Option Addr) (n1 c1 n2 c2 n3 c3 m cm : Nat) (l lo hi j : List Int) (w : World) (h1 : l.length = n1) (h4 : j.length = m) (hv : M.jointsB l lo hi j = true) (hr : ArmAt w w.heap.size a1 a2 a3 l lo hi) (hj : Row w w.heap.size aj j) :
    Calls Tryd.prog 40 #[.agg #[.slice a1 n1 c1, .slice a2 n2 c2, .slice a3 n3 c3], .slice aj m cm] w fun e w' => e = .returned (.agg #[.int .i64 (M.pxT l j m), .int .i64 (M.pyT l j m)]) ∧ Below w.heap.size w w' := by
  obtain ⟨⟨e1, e2⟩, e3, bl, bj⟩ := M.joints_bds hv
  rw [h4] at e1 e2 e3 bl bj
  rw [h1] at e3
  exact spec_tip a1 a2 a3 aj n1 c1 n2 c2 n3 c3 m cm l j w h1 h4 (by omega) e2 hr.1 hj (fun i hi => by have := bl i hi; omega) (fun i hi => by have := bj i hi; omega)
theorem spec_score (l lo hi j : List Int) (m : Nat) (X Y : Int) (w : World) (h4 : j.length = m) (hv : M.jointsB l lo hi j = true) (hP : M.pvB X Y = true) :
    Calls Tryd.prog 57 #[.agg #[.int .i64 (M.pxT l j m), .int .i64 (M.pyT l j m)], .agg #[.int .i64 X, .int .i64 Y]] w fun e w' => e = .returned (.int .i64 (M.score l j X Y)) ∧ Below w.heap.size w w' := by
  have ht := M.tip_pv hv
  unfold M.score
  rw [h4] at ht ⊢
  rw [M.sq_yes ht hP]
  exact l2_square _ _ _ _ _ ht hP
set_option maxRecDepth 20000 in
set_option maxHeartbeats 8000000 in
theorem impl_step (a1 a2 a3 aj : Option Addr) (n1 c1 n2 c2 n3 c3 m cm : Nat) (l lo hi j : List Int) (X Y : Int) (w : World) (hT : Tables w) (h1 : l.length = n1) (h2 : lo.length = n2) (h3 : hi.length = n3) (h4 : j.length = m) (hm : n1 ≤ 1000000000 ∧ n2 ≤ 1000000000 ∧ n3 ≤ 1000000000) (hm4 : m ≤ 1000000000) (hr : ArmAt w w.heap.size a1 a2 a3 l lo hi) (hj : Row w w.heap.size aj j) :
    Calls Tryd.prog 34 #[.agg #[.slice a1 n1 c1, .slice a2 n2 c2, .slice a3 n3 c3], .slice aj m cm, .agg #[.int .i64 X, .int .i64 Y]] w (IntsOut w (M.step l lo hi j X Y)) := by
  replace h1 := Lib.hid h1
  replace h2 := Lib.hid h2
  replace h3 := Lib.hid h3
  replace h4 := Lib.hid h4
  replace hm := Lib.hid hm
  have bb := bel_new w (.cells #[.slice a1 n1 c1, .slice a2 n2 c2, .slice a3 n3 c3] 29)
  have k0 := (Cell3.new w (.slice a1 n1 c1) (.slice a2 n2 c2) (.slice a3 n3 c3) 29).alloc (.cells #[.int .i64 X, .int .i64 Y] 27)
  have kt := Slot.new (w.alloc (.cells #[.slice a1 n1 c1, .slice a2 n2 c2, .slice a3 n3 c3] 29)) X Y 27
  rw [World.size_alloc] at kt
  replace bb := bel_after bb (bel_new (w.alloc (.cells #[.slice a1 n1 c1, .slice a2 n2 c2, .slice a3 n3 c3] 29)) (.cells #[.int .i64 X, .int .i64 Y] 27))
  replace hr := Lib.hid (hr.after bb)
  replace hj := Lib.hid (hj.after bb)
  replace hT := Lib.hid (hT.later bb)
  replace bb := Lib.hid bb
  go_enter Tryd.func34, Tryd.ntmps34
  obtain ⟨x0, x1, x2, x3, x4, x5⟩ := id k0
  obtain ⟨t0, t1, t2, t3, t4⟩ := id kt
  go_wp2_with fail
  clear x0 x1 x2 x3 x4 x5 t0 t1 t2 t3 t4
  generalize (w.alloc (.cells #[.slice a1 n1 c1, .slice a2 n2 c2, .slice a3 n3 c3] 29)).alloc (.cells #[.int .i64 X, .int .i64 Y] 27) = v at *
  have hvs : w.heap.size + 1 < v.heap.size := kt.2.2.2.2
  refine (impl_joints a1 a2 a3 aj n1 c1 n2 c2 n3 c3 m cm l lo hi j _ h1.out h2.out h3.out h4.out hm.out hm4 hr.out hj.out).mono ?_
  rintro e w1 ⟨rfl, q⟩
  have z1 := q.size
  replace bb := Lib.hid (bel_after bb.out q)
  replace k0 := k0.after q
  replace kt := kt.after q
  replace hr := Lib.hid (hr.out.after q)
  replace hj := Lib.hid (hj.out.after q)
  replace hT := Lib.hid (hT.out.later q)
  clear q
  cases hA : M.jointsB l lo hi j
  · have hfin := Lib.hid (M.step_no1 (X := X) (Y := Y) hA)
    replace hA := Lib.hid hA
    go_wp2_with fail
    go_ret
    exact ints_fin hfin.out (Owns.nil _ _) bb.out
  replace hA := Lib.hid hA
  obtain ⟨x0, x1, x2, x3, x4, x5⟩ := id k0
  obtain ⟨t0, t1, t2, t3, t4⟩ := id kt
  go_wp2_with fail
  clear x0 x1 x2 x3 x4 x5 t0 t1 t2 t3 t4
  refine (impl_pv X Y _).mono ?_
  rintro e w2 ⟨rfl, q⟩
  have z2 := q.size
  replace bb := Lib.hid (bel_after bb.out q)
  replace k0 := k0.after q
  replace kt := kt.after q
  replace hr := Lib.hid (hr.out.after q)
  replace hj := Lib.hid (hj.out.after q)
  replace hT := Lib.hid (hT.out.later q)
  clear q
  cases hP : M.pvB X Y
  · have hfin := Lib.hid (M.step_no2 (l := l) (lo := lo) (hi := hi) (j := j) hP)
    replace hP := Lib.hid hP
    go_wp2_with fail
    go_ret
    exact ints_fin hfin.out (Owns.nil _ _) bb.out
  have hfin := Lib.hid (M.step_yes hA.out hP)
  replace hP := Lib.hid hP
  obtain ⟨⟨e1, e2⟩, e3, bl, bj⟩ := M.joints_bds hA.out
  rw [h4.out] at e1 e2 e3 bl bj
  rw [h1.out] at e3
  have e5 : m ≤ n1 := by omega
  have e6 : n1 ≤ m := by omega
  clear e3
  replace bl := Lib.hid bl
  replace bj := Lib.hid bj
  obtain ⟨x0, x1, x2, x3, x4, x5⟩ := id k0
  obtain ⟨t0, t1, t2, t3, t4⟩ := id kt
  go_wp2_with fail
  clear x0 x1 x2 x3 x4 x5 t0 t1 t2 t3 t4
  refine (clone_ints aj m cm j _ h4.out (by omega) hj.out).mono ?_
  rintro e w3 hq
  obtain ⟨pb, db, rfl, mb, q⟩ := ints_view h4.out hq
  replace mb := Lib.hid (mb.base2 bb.out.size)
  replace bb := Lib.hid (bel_after bb.out q)
  replace k0 := k0.after q
  replace kt := kt.after q
  replace hr := Lib.hid (hr.out.after q)
  replace hj := Lib.hid (hj.out.after q)
  replace hT := Lib.hid (hT.out.later q)
  clear q hq
  obtain ⟨x0, x1, x2, x3, x4, x5⟩ := id k0
  obtain ⟨t0, t1, t2, t3, t4⟩ := id kt
  go_wp2_with fail
  clear x0 x1 x2 x3 x4 x5 t0 t1 t2 t3 t4
  have _tok := True.intro
  replace bb := Lib.hid (bel_after bb.out (bel_drew _))
  replace k0 := k0.after (bel_drew _)
  replace kt := kt.after (bel_drew _)
  replace hr := Lib.hid (hr.out.after (bel_drew _))
  replace hj := Lib.hid (hj.out.after (bel_drew _))
  replace hT := Lib.hid (hT.out.later (bel_drew _))
  replace mb := Lib.hid (mb.out.after (bel_drew _))
  have s := And.intro (And.intro k0.c0 (And.intro k0.c1 k0.c2)) (And.intro kt.1 kt.2.1)
  go_region_held3 (fun w' => (w'.cell? ⟨w.heap.size, 0, none⟩ = some (.slice a1 n1 c1) ∧ w'.cell? ⟨w.heap.size, 1, none⟩ = some (.slice a2 n2 c2) ∧ w'.cell? ⟨w.heap.size, 2, none⟩ = some (.slice a3 n3 c3)) ∧ (w'.cell? ⟨w.heap.size + 1, 0, none⟩ = some (.int .i64 X) ∧ w'.cell? ⟨w.heap.size + 1, 1, none⟩ = some (.int .i64 Y))) (first | (with_reducible assumption) | go_keep) (first | (go_at_call 41; refine (impl_tipV a1 a2 a3 pb n1 c1 n2 c2 n3 c3 m db l lo hi j _ hT.out h1.out h4.out hA.out hr.out mb.out.row).mono ?_; rintro e wa ⟨rfl, q⟩; replace bb := Lib.hid (bel_after bb.out q); replace k0 := k0.after q; replace kt := kt.after q; replace hr := Lib.hid (hr.out.after q); replace hj := Lib.hid (hj.out.after q); replace hT := Lib.hid (hT.out.later q); replace mb := Lib.hid (mb.out.after q); clear q s; have s := And.intro (And.intro k0.c0 (And.intro k0.c1 k0.c2)) (And.intro kt.1 kt.2.1)) | (go_at_call 47; refine (impl_score l lo hi j m X Y _ h4.out hA.out hP.out).mono ?_; rintro e wb ⟨rfl, q⟩; replace bb := Lib.hid (bel_after bb.out q); replace k0 := k0.after q; replace kt := kt.after q; replace hr := Lib.hid (hr.out.after q); replace hj := Lib.hid (hj.out.after q); replace hT := Lib.hid (hT.out.later q); replace mb := Lib.hid (mb.out.after q); clear q s; have s := And.intro (And.intro k0.c0 (And.intro k0.c1 k0.c2)) (And.intro kt.1 kt.2.1)))
  clear s
  all_goals
    obtain ⟨x0, x1, x2, x3, x4, x5⟩ := id k0
    obtain ⟨t0, t1, t2, t3, t4⟩ := id kt
    go_wp2_with fail
    clear x0 x1 x2 x3 x4 x5 t0 t1 t2 t3 t4
    obtain ⟨v0, rfl⟩ : ∃ u : World, u = wb := ⟨_, rfl⟩
    have _lp := True.intro
    go_loopw [7, 8, 32] (fun bv lv i wr => ∃ k : Nat, i = .int .i64 k ∧ k ≤ m ∧ lv = .int .i64 (M.score l (M.stepK l lo hi j X Y k) X Y) ∧ Hid (Owns wr w.heap.size bv (M.stepK l lo hi j X Y k)) ∧ Hid (Below v0.heap.size v0 wr)) (fun _ _ i _ => m - (intOf i).toNat)
    case atStart => exact ⟨0, rfl, Nat.zero_le _, rfl, mb, Below.refl _ _⟩
    case round =>
      clear mb
      obtain ⟨k, rfl, hk, rfl, mb, bc⟩ := hrel
      replace bb := Lib.hid (bel_after bb.out bc.out)
      replace k0 := k0.after bc.out
      replace kt := kt.after bc.out
      replace hr := Lib.hid (hr.out.after bc.out)
      replace hj := Lib.hid (hj.out.after bc.out)
      replace hT := Lib.hid (hT.out.later bc.out)
      by_cases hlt : k < m
      · have hk4 : (k : Int) < (m : Int) := by omega
        have hstep := Lib.hid (show M.stepK l lo hi j X Y (k + 1) = M.stepI l lo hi j X Y (M.stepK l lo hi j X Y k) k 2 from rfl)
        generalize hb0 : M.stepK l lo hi j X Y k = b0 at *
        replace hb0 := Lib.hid hb0
        have kL := Box.new wr (-1) 1 3
        go_wp2_with fail
        replace bb := Lib.hid (bel_after bb.out (bel_new wr (.cells #[.int .i64 (-1), .int .i64 1] 3)))
        replace k0 := k0.after (bel_new wr (.cells #[.int .i64 (-1), .int .i64 1] 3))
        replace kt := kt.after (bel_new wr (.cells #[.int .i64 (-1), .int .i64 1] 3))
        replace hr := Lib.hid (hr.out.after (bel_new wr (.cells #[.int .i64 (-1), .int .i64 1] 3)))
        replace hj := Lib.hid (hj.out.after (bel_new wr (.cells #[.int .i64 (-1), .int .i64 1] 3)))
        replace hT := Lib.hid (hT.out.later (bel_new wr (.cells #[.int .i64 (-1), .int .i64 1] 3)))
        replace mb := Lib.hid (mb.out.after (bel_new wr (.cells #[.int .i64 (-1), .int .i64 1] 3)))
        replace bc := Lib.hid (bel_after bc.out (bel_new wr (.cells #[.int .i64 (-1), .int .i64 1] 3)))
        generalize wr.heap.size = L at kL ⊢
        generalize wr.alloc (.cells #[.int .i64 (-1), .int .i64 1] 3) = u0 at *
        obtain ⟨u1, rfl⟩ : ∃ u : World, u = u0 := ⟨_, rfl⟩
        go_loopw [7, 8, 37] (fun bv lv i wr => ∃ i_ : Nat, i = .int .i64 i_ ∧ i_ ≤ 2 ∧ lv = .int .i64 (M.score l (M.stepI l lo hi j X Y b0 k i_) X Y) ∧ Hid (Owns wr w.heap.size bv (M.stepI l lo hi j X Y b0 k i_)) ∧ Hid (Below u1.heap.size u1 wr)) (fun _ _ i _ => 2 - (intOf i).toNat)
        case atStart => exact ⟨0, rfl, Nat.zero_le _, rfl, mb, Below.refl _ _⟩
        case round =>
          clear mb
          obtain ⟨i, rfl, hi2, rfl, mb, bd⟩ := hrel
          replace bb := Lib.hid (bel_after bb.out bd.out)
          replace k0 := k0.after bd.out
          replace kt := kt.after bd.out
          replace hr := Lib.hid (hr.out.after bd.out)
          replace hj := Lib.hid (hj.out.after bd.out)
          replace hT := Lib.hid (hT.out.later bd.out)
          replace bc := Lib.hid (bel_after bc.out bd.out)
          replace kL := kL.after bd.out
          by_cases hli : i < 2
          · have hi4 : (i : Int) < 2 := by omega
            have hwr := bb.out.size
            have hpick := Lib.hid (show M.stepI l lo hi j X Y b0 k (i + 1) = if M.jointsB l lo hi (M.cand j k (2 * (i : Int) - 1)) = true ∧ M.score l (M.cand j k (2 * (i : Int) - 1)) X Y < M.score l (M.stepI l lo hi j X Y b0 k i) X Y then M.cand j k (2 * (i : Int) - 1) else M.stepI l lo hi j X Y b0 k i from rfl)
            generalize hbi : M.stepI l lo hi j X Y b0 k i = bi at *
            replace hbi := Lib.hid hbi
            have y0 := kL.two i (by omega)
            go_wp2_with fail
            refine (clone_ints aj m cm j _ h4.out (by omega) hj.out).mono ?_
            rintro e wc hq
            obtain ⟨pn, dn, rfl, oc, q⟩ := ints_view h4.out hq
            clear hq
            obtain ⟨g, rfl⟩ := slotAt oc h4.out (by omega)
            obtain ⟨y1, y2, y3, y4⟩ := oc.cellAt h4.out k hlt
            have on := Lib.hid (oc.put h4.out k (j.getD k 0 + (2 * (i : Int) - 1)))
            have ecand : j.set k (j.getD k 0 + (2 * (i : Int) - 1)) = M.cand j k (2 * (i : Int) - 1) := rfl
            have hcl := Lib.hid (show (M.cand j k (2 * (i : Int) - 1)).length = m from by rw [M.cand_len]; exact h4.out)
            rw [ecand] at on
            clear ecand oc
            obtain ⟨u1, u2⟩ := bj.out k hlt
            generalize M.cand j k (2 * (i : Int) - 1) = c at *
            generalize j.getD k 0 = x at *
            go_upto_region 13 with fail
            clear y1 y2
            have gs := grown_set wc g k (.int .i64 (x + (2 * (i : Int) - 1)))
            replace q := bel_grown q gs y3
            clear gs y3 y4 y0
            generalize wc.setCell ⟨g, k, none⟩ (.int .i64 (x + (2 * (i : Int) - 1))) = wd at *
            replace bb := Lib.hid (bel_after bb.out q)
            replace k0 := k0.after q
            replace kt := kt.after q
            replace hr := Lib.hid (hr.out.after q)
            replace hj := Lib.hid (hj.out.after q)
            replace hT := Lib.hid (hT.out.later q)
            replace bc := Lib.hid (bel_after bc.out q)
            replace kL := kL.after q
            replace mb := Lib.hid (mb.out.after q)
            replace bd := Lib.hid (bel_after bd.out q)
            clear q
            obtain ⟨x0, x1, x2, x3, x4, x5⟩ := id k0
            obtain ⟨t0, t1, t2, t3, t4⟩ := id kt
            go_wp2_with fail
            clear x0 x1 x2 x3 x4 x5 t0 t1 t2 t3 t4
            refine (impl_joints a1 a2 a3 _ n1 c1 n2 c2 n3 c3 m dn l lo hi c _ h1.out h2.out h3.out hcl.out hm.out hm4 hr.out on.out.row).mono ?_
            rintro e w4 ⟨rfl, q⟩
            have z4 := q.size
            replace bb := Lib.hid (bel_after bb.out q)
            replace k0 := k0.after q
            replace kt := kt.after q
            replace hr := Lib.hid (hr.out.after q)
            replace hj := Lib.hid (hj.out.after q)
            replace hT := Lib.hid (hT.out.later q)
            replace bc := Lib.hid (bel_after bc.out q)
            replace kL := kL.after q
            replace mb := Lib.hid (mb.out.after q)
            replace bd := Lib.hid (bel_after bd.out q)
            replace on := Lib.hid (on.out.after q)
            clear q
            cases hC : M.jointsB l lo hi c
            · replace hpick := Lib.hid (hpick.out.trans (if_neg (by rw [hC]; rintro ⟨h, _⟩; cases h)))
              replace hC := Lib.hid hC
              go_wp2_with fail
              go_roundw
              case rel => exact ⟨i + 1, by go_num, by omega, by rw [hpick.out], by rw [hpick.out]; exact mb, bd.out⟩
              case measure => simp [intOf]; omega
            replace hC := Lib.hid hC
            obtain ⟨x0, x1, x2, x3, x4, x5⟩ := id k0
            obtain ⟨t0, t1, t2, t3, t4⟩ := id kt
            go_wp2_with fail
            clear x0 x1 x2 x3 x4 x5 t0 t1 t2 t3 t4
            have _tok := True.intro
            replace bb := Lib.hid (bel_after bb.out (bel_drew _))
            replace k0 := k0.after (bel_drew _)
            replace kt := kt.after (bel_drew _)
            replace hr := Lib.hid (hr.out.after (bel_drew _))
            replace hj := Lib.hid (hj.out.after (bel_drew _))
            replace hT := Lib.hid (hT.out.later (bel_drew _))
            replace bc := Lib.hid (bel_after bc.out (bel_drew _))
            replace kL := kL.after (bel_drew _)
            replace mb := Lib.hid (mb.out.after (bel_drew _))
            replace bd := Lib.hid (bel_after bd.out (bel_drew _))
            replace on := Lib.hid (on.out.after (bel_drew _))
            have s := And.intro (And.intro k0.c0 (And.intro k0.c1 k0.c2)) (And.intro kt.1 kt.2.1)
            go_region_held3 (fun w' => (w'.cell? ⟨w.heap.size, 0, none⟩ = some (.slice a1 n1 c1) ∧ w'.cell? ⟨w.heap.size, 1, none⟩ = some (.slice a2 n2 c2) ∧ w'.cell? ⟨w.heap.size, 2, none⟩ = some (.slice a3 n3 c3)) ∧ (w'.cell? ⟨w.heap.size + 1, 0, none⟩ = some (.int .i64 X) ∧ w'.cell? ⟨w.heap.size + 1, 1, none⟩ = some (.int .i64 Y))) (first | (with_reducible assumption) | go_keep) (first | (go_at_call 41; refine (impl_tipV a1 a2 a3 _ n1 c1 n2 c2 n3 c3 m dn l lo hi c _ hT.out h1.out hcl.out hC.out hr.out on.out.row).mono ?_; rintro e wa ⟨rfl, q⟩; replace bb := Lib.hid (bel_after bb.out q); replace k0 := k0.after q; replace kt := kt.after q; replace hr := Lib.hid (hr.out.after q); replace hj := Lib.hid (hj.out.after q); replace hT := Lib.hid (hT.out.later q); replace bc := Lib.hid (bel_after bc.out q); replace kL := kL.after q; replace mb := Lib.hid (mb.out.after q); replace bd := Lib.hid (bel_after bd.out q); replace on := Lib.hid (on.out.after q); clear q s; have s := And.intro (And.intro k0.c0 (And.intro k0.c1 k0.c2)) (And.intro kt.1 kt.2.1)) | (go_at_call 47; refine (impl_score l lo hi c m X Y _ hcl.out hC.out hP.out).mono ?_; rintro e wb ⟨rfl, q⟩; replace bb := Lib.hid (bel_after bb.out q); replace k0 := k0.after q; replace kt := kt.after q; replace hr := Lib.hid (hr.out.after q); replace hj := Lib.hid (hj.out.after q); replace hT := Lib.hid (hT.out.later q); replace bc := Lib.hid (bel_after bc.out q); replace kL := kL.after q; replace mb := Lib.hid (mb.out.after q); replace bd := Lib.hid (bel_after bd.out q); replace on := Lib.hid (on.out.after q); clear q s; have s := And.intro (And.intro k0.c0 (And.intro k0.c1 k0.c2)) (And.intro kt.1 kt.2.1)))
            clear s
            all_goals
              by_cases hs : M.score l c X Y < M.score l bi X Y
              · replace hpick := Lib.hid (hpick.out.trans (if_pos ⟨hC.out, hs⟩))
                go_wp2_with fail
                go_roundw
                case rel => exact ⟨i + 1, by go_num, by omega, by rw [hpick.out], by rw [hpick.out]; exact on.out.base2 (by omega), bd.out⟩
                case measure => simp [intOf]; omega
              · replace hpick := Lib.hid (hpick.out.trans (if_neg (fun h => hs h.2)))
                go_wp2_with fail
                go_roundw
                case rel => exact ⟨i + 1, by go_num, by omega, by rw [hpick.out], by rw [hpick.out]; exact mb, bd.out⟩
                case measure => simp [intOf]; omega
          · obtain rfl : i = 2 := by omega
            go_wp2_with fail
            go_roundw
            case rel => exact ⟨k + 1, by go_num, by omega, by rw [hstep.out], by rw [hstep.out]; exact mb, bc.out⟩
            case measure => simp [intOf]; omega
      · obtain rfl : k = m := by omega
        have hlast := Lib.hid (show M.stepK l lo hi j X Y k = M.stepJ l lo hi j X Y from by unfold M.stepJ; rw [h4.out])
        go_wp2_with fail
        go_ret
        exact ints_fin (hlast.out.trans hfin.out) mb.out bb.out
set_option maxHeartbeats 2000000 in
theorem spec_try (aj : Option Addr) (m cm : Nat) (j : List Int) (k : Nat) (d : Int) (w : World) (h4 : j.length = m) (hm4 : m ≤ 1000000000) (hk : k < m) (hb : -1000 ≤ j.getD k 0 ∧ j.getD k 0 ≤ 1000) (hd : -1 ≤ d ∧ d ≤ 1) (hj : Row w w.heap.size aj j) :
    Calls Tryd.prog 58 #[.slice aj m cm, .int .i64 k, .int .i64 d] w (IntsOut w (M.cand j k d)) := by
  obtain ⟨i0, hi0, hz0, hz1, hz2⟩ := info_parts infoInt
  obtain ⟨b0, o0, rfl⟩ := hj.form (by omega)
  replace h4 := Lib.hid h4
  go_enter Tryd.func58, Tryd.ntmps58
  have hnews := Lib.hid (row_news hj (bel_new w (.cells #[] 3)))
  have hlit := Lib.hid (Owns.made (w := w) (Nat.le_refl _))
  go_upto_region 2 with (at_builtin; refine wpList_append_own _ rfl _ _ 22 rfl w.heap.size 3 i0 (.int .i64 0) 1 8 Tryd.underlying22 hi0 hz0 hz1 hz2 rfl (by decide) _ _ _ rfl hlit.out ⟨b0, o0, none⟩ m cm ((j).map (Value.int .i64)) rfl (by (rw [List.length_map, h4.out]) <;> omega) hnews.out (int_one _) (by unfold maxLen; simp; omega) (by simp; omega) (by simp) ?_)
  intro v' w9 hown hgrow _
  have oc : Owns w9 w.heap.size v' (j) := by unfold Owns; rw [h4.out]; simpa using hown
  have q : Below w.heap.size w w9 := ((Below.refl _ _).alloc (Nat.le_refl _) _).grown hgrow (Nat.le_of_lt (by simp)) (fun k hk => by simp [Value.ownBlock] at hk; omega)
  clear hown hgrow hnews hlit
  obtain ⟨p, e, hv, _⟩ := oc.view
  rw [h4.out] at hv
  subst hv
  obtain ⟨g, rfl⟩ := slotAt oc h4.out (by omega)
  obtain ⟨y1, y2, y3, y4⟩ := oc.cellAt h4.out k hk
  have on := Lib.hid (oc.put h4.out k (j.getD k 0 + d))
  have gs := grown_set w9 g k (.int .i64 (j.getD k 0 + d))
  replace q := bel_grown q gs y3
  have ecand := Lib.hid (show j.set k (j.getD k 0 + d) = M.cand j k d from rfl)
  replace q := Lib.hid q
  generalize j.getD k 0 = x at *
  clear gs oc
  go_wp2_with fail
  go_ret
  exact ints_fin ecand.out on.out q.out
set_option maxRecDepth 20000 in
set_option maxHeartbeats 8000000 in
theorem spec_step (a1 a2 a3 aj : Option Addr) (n1 c1 n2 c2 n3 c3 m cm : Nat) (l lo hi j : List Int) (X Y : Int) (w : World) (h1 : l.length = n1) (h2 : lo.length = n2) (h3 : hi.length = n3) (h4 : j.length = m) (hm : n1 ≤ 1000000000 ∧ n2 ≤ 1000000000 ∧ n3 ≤ 1000000000) (hm4 : m ≤ 1000000000) (hr : ArmAt w w.heap.size a1 a2 a3 l lo hi) (hj : Row w w.heap.size aj j) :
    Calls Tryd.prog 32 #[.agg #[.slice a1 n1 c1, .slice a2 n2 c2, .slice a3 n3 c3], .slice aj m cm, .agg #[.int .i64 X, .int .i64 Y]] w (IntsOut w (M.step l lo hi j X Y)) := by
  replace h1 := Lib.hid h1
  replace h2 := Lib.hid h2
  replace h3 := Lib.hid h3
  replace h4 := Lib.hid h4
  replace hm := Lib.hid hm
  have bb := bel_new w (.cells #[.slice a1 n1 c1, .slice a2 n2 c2, .slice a3 n3 c3] 29)
  have k0 := (Cell3.new w (.slice a1 n1 c1) (.slice a2 n2 c2) (.slice a3 n3 c3) 29).alloc (.cells #[.int .i64 X, .int .i64 Y] 27)
  have kt := Slot.new (w.alloc (.cells #[.slice a1 n1 c1, .slice a2 n2 c2, .slice a3 n3 c3] 29)) X Y 27
  rw [World.size_alloc] at kt
  replace bb := bel_after bb (bel_new (w.alloc (.cells #[.slice a1 n1 c1, .slice a2 n2 c2, .slice a3 n3 c3] 29)) (.cells #[.int .i64 X, .int .i64 Y] 27))
  replace hr := Lib.hid (hr.after bb)
  replace hj := Lib.hid (hj.after bb)
  replace bb := Lib.hid bb
  go_enter Tryd.func32, Tryd.ntmps32
  obtain ⟨x0, x1, x2, x3, x4, x5⟩ := id k0
  obtain ⟨t0, t1, t2, t3, t4⟩ := id kt
  go_wp2_with fail
  clear x0 x1 x2 x3 x4 x5 t0 t1 t2 t3 t4
  generalize (w.alloc (.cells #[.slice a1 n1 c1, .slice a2 n2 c2, .slice a3 n3 c3] 29)).alloc (.cells #[.int .i64 X, .int .i64 Y] 27) = v at *
  have hvs : w.heap.size + 1 < v.heap.size := kt.2.2.2.2
  refine (spec_joints a1 a2 a3 aj n1 c1 n2 c2 n3 c3 m cm l lo hi j _ h1.out h2.out h3.out h4.out hm.out hm4 hr.out hj.out).mono ?_
  rintro e w1 ⟨rfl, q⟩
  have z1 := q.size
  replace bb := Lib.hid (bel_after bb.out q)
  replace k0 := k0.after q
  replace kt := kt.after q
  replace hr := Lib.hid (hr.out.after q)
  replace hj := Lib.hid (hj.out.after q)
  clear q
  cases hA : M.jointsB l lo hi j
  · have hfin := Lib.hid (M.step_no1 (X := X) (Y := Y) hA)
    replace hA := Lib.hid hA
    have ho := Owns.made (w := w1) (B := w.heap.size) bb.out.size
    go_wp2_with fail
    go_ret
    exact ints_fin hfin.out ho (bel_after bb.out (bel_new w1 _))
  replace hA := Lib.hid hA
  obtain ⟨x0, x1, x2, x3, x4, x5⟩ := id k0
  obtain ⟨t0, t1, t2, t3, t4⟩ := id kt
  go_wp2_with fail
  clear x0 x1 x2 x3 x4 x5 t0 t1 t2 t3 t4
  refine (spec_pv X Y _).mono ?_
  rintro e w2 ⟨rfl, q⟩
  have z2 := q.size
  replace bb := Lib.hid (bel_after bb.out q)
  replace k0 := k0.after q
  replace kt := kt.after q
  replace hr := Lib.hid (hr.out.after q)
  replace hj := Lib.hid (hj.out.after q)
  clear q
  cases hP : M.pvB X Y
  · have hfin := Lib.hid (M.step_no2 (l := l) (lo := lo) (hi := hi) (j := j) hP)
    replace hP := Lib.hid hP
    have ho := Owns.made (w := w2) (B := w.heap.size) bb.out.size
    go_wp2_with fail
    go_ret
    exact ints_fin hfin.out ho (bel_after bb.out (bel_new w2 _))
  have hfin := Lib.hid (M.step_yes hA.out hP)
  replace hP := Lib.hid hP
  obtain ⟨⟨e1, e2⟩, e3, bl, bj⟩ := M.joints_bds hA.out
  rw [h4.out] at e1 e2 e3 bl bj
  rw [h1.out] at e3
  have e5 : m ≤ n1 := by omega
  have e6 : n1 ≤ m := by omega
  clear e3
  replace bl := Lib.hid bl
  replace bj := Lib.hid bj
  obtain ⟨i0, hi0, hz0, hz1, hz2⟩ := info_parts infoInt
  obtain ⟨b0, o0, rfl⟩ := hj.out.form (by rw [h4.out]; omega)
  have hnews := Lib.hid (row_news hj.out (bel_new w2 (.cells #[] 3)))
  have hlit := Lib.hid (Owns.made (w := w2) (Nat.le_refl _))
  go_upto_region 4 with (at_builtin; refine wpList_append_own _ rfl _ _ 22 rfl w2.heap.size 3 i0 (.int .i64 0) 1 8 Tryd.underlying22 hi0 hz0 hz1 hz2 rfl (by decide) _ _ _ rfl hlit.out ⟨b0, o0, none⟩ m cm ((j).map (Value.int .i64)) rfl (by (rw [List.length_map, h4.out]) <;> omega) hnews.out (int_one _) (by unfold maxLen; simp; omega) (by simp; omega) (by simp) ?_)
  intro v' w9 hown hgrow _
  have mb : Owns w9 w2.heap.size v' (j) := by unfold Owns; rw [h4.out]; simpa using hown
  have q : Below w2.heap.size w2 w9 := ((Below.refl _ _).alloc (Nat.le_refl _) _).grown hgrow (Nat.le_of_lt (by simp)) (fun k hk => by simp [Value.ownBlock] at hk; omega)
  clear hown hgrow hnews hlit
  replace mb := Lib.hid (mb.base2 bb.out.size)
  replace bb := Lib.hid (bel_after bb.out q)
  replace k0 := k0.after q
  replace kt := kt.after q
  replace hr := Lib.hid (hr.out.after q)
  replace hj := Lib.hid (hj.out.after q)
  clear q
  obtain ⟨pb, db, hv, _⟩ := mb.out.view
  rw [h4.out] at hv
  subst hv
  obtain ⟨x0, x1, x2, x3, x4, x5⟩ := id k0
  obtain ⟨t0, t1, t2, t3, t4⟩ := id kt
  go_wp2_with fail
  clear x0 x1 x2 x3 x4 x5 t0 t1 t2 t3 t4
  have _tok := True.intro
  replace bb := Lib.hid (bel_after bb.out (bel_drew _))
  replace k0 := k0.after (bel_drew _)
  replace kt := kt.after (bel_drew _)
  replace hr := Lib.hid (hr.out.after (bel_drew _))
  replace hj := Lib.hid (hj.out.after (bel_drew _))
  replace mb := Lib.hid (mb.out.after (bel_drew _))
  have s := And.intro (And.intro k0.c0 (And.intro k0.c1 k0.c2)) (And.intro kt.1 kt.2.1)
  go_region_held3 (fun w' => (w'.cell? ⟨w.heap.size, 0, none⟩ = some (.slice a1 n1 c1) ∧ w'.cell? ⟨w.heap.size, 1, none⟩ = some (.slice a2 n2 c2) ∧ w'.cell? ⟨w.heap.size, 2, none⟩ = some (.slice a3 n3 c3)) ∧ (w'.cell? ⟨w.heap.size + 1, 0, none⟩ = some (.int .i64 X) ∧ w'.cell? ⟨w.heap.size + 1, 1, none⟩ = some (.int .i64 Y))) (first | (with_reducible assumption) | go_keep) (first | (go_at_call 40; refine (spec_tipV a1 a2 a3 pb n1 c1 n2 c2 n3 c3 m db l lo hi j _ h1.out h4.out hA.out hr.out mb.out.row).mono ?_; rintro e wa ⟨rfl, q⟩; replace bb := Lib.hid (bel_after bb.out q); replace k0 := k0.after q; replace kt := kt.after q; replace hr := Lib.hid (hr.out.after q); replace hj := Lib.hid (hj.out.after q); replace mb := Lib.hid (mb.out.after q); clear q s; have s := And.intro (And.intro k0.c0 (And.intro k0.c1 k0.c2)) (And.intro kt.1 kt.2.1)) | (go_at_call 57; refine (spec_score l lo hi j m X Y _ h4.out hA.out hP.out).mono ?_; rintro e wb ⟨rfl, q⟩; replace bb := Lib.hid (bel_after bb.out q); replace k0 := k0.after q; replace kt := kt.after q; replace hr := Lib.hid (hr.out.after q); replace hj := Lib.hid (hj.out.after q); replace mb := Lib.hid (mb.out.after q); clear q s; have s := And.intro (And.intro k0.c0 (And.intro k0.c1 k0.c2)) (And.intro kt.1 kt.2.1)))
  clear s
  all_goals
    obtain ⟨x0, x1, x2, x3, x4, x5⟩ := id k0
    obtain ⟨t0, t1, t2, t3, t4⟩ := id kt
    go_wp2_with fail
    clear x0 x1 x2 x3 x4 x5 t0 t1 t2 t3 t4
    obtain ⟨v0, rfl⟩ : ∃ u : World, u = wb := ⟨_, rfl⟩
    have _lp := True.intro
    go_loopw [7, 8, 9] (fun bv lv i wr => ∃ k : Nat, i = .int .i64 k ∧ k ≤ m ∧ lv = .int .i64 (M.score l (M.stepK l lo hi j X Y k) X Y) ∧ Hid (Owns wr w.heap.size bv (M.stepK l lo hi j X Y k)) ∧ Hid (Below v0.heap.size v0 wr)) (fun _ _ i _ => m - (intOf i).toNat)
    case atStart => exact ⟨0, rfl, Nat.zero_le _, rfl, mb, Below.refl _ _⟩
    case round =>
      clear mb
      obtain ⟨k, rfl, hk, rfl, mb, bc⟩ := hrel
      replace bb := Lib.hid (bel_after bb.out bc.out)
      replace k0 := k0.after bc.out
      replace kt := kt.after bc.out
      replace hr := Lib.hid (hr.out.after bc.out)
      replace hj := Lib.hid (hj.out.after bc.out)
      by_cases hlt : k < m
      · have hk4 : (k : Int) < (m : Int) := by omega
        have hstep := Lib.hid (show M.stepK l lo hi j X Y (k + 1) = M.stepI l lo hi j X Y (M.stepK l lo hi j X Y k) k 2 from rfl)
        generalize hb0 : M.stepK l lo hi j X Y k = b0 at *
        replace hb0 := Lib.hid hb0
        have _ob := True.intro
        go_wp2_with fail
        obtain ⟨u1, rfl⟩ : ∃ u : World, u = wr := ⟨_, rfl⟩
        go_loopw [7, 8, 10] (fun bv lv dv wr => ∃ i_ : Nat, dv = .int .i64 (2 * (i_ : Int) - 1) ∧ i_ ≤ 2 ∧ lv = .int .i64 (M.score l (M.stepI l lo hi j X Y b0 k i_) X Y) ∧ Hid (Owns wr w.heap.size bv (M.stepI l lo hi j X Y b0 k i_)) ∧ Hid (Below u1.heap.size u1 wr)) (fun _ _ d _ => (3 - intOf d).toNat)
        case atStart => exact ⟨0, rfl, Nat.zero_le _, rfl, mb, Below.refl _ _⟩
        case round =>
          clear mb
          obtain ⟨i, rfl, hi2, rfl, mb, bd⟩ := hrel
          replace bb := Lib.hid (bel_after bb.out bd.out)
          replace k0 := k0.after bd.out
          replace kt := kt.after bd.out
          replace hr := Lib.hid (hr.out.after bd.out)
          replace hj := Lib.hid (hj.out.after bd.out)
          replace bc := Lib.hid (bel_after bc.out bd.out)
          by_cases hli : i < 2
          · have hi4 : 2 * (i : Int) - 1 ≤ 1 := by omega
            have hi5 : -1 ≤ 2 * (i : Int) - 1 := by omega
            have hwr := bb.out.size
            have hpick := Lib.hid (show M.stepI l lo hi j X Y b0 k (i + 1) = if M.jointsB l lo hi (M.cand j k (2 * (i : Int) - 1)) = true ∧ M.score l (M.cand j k (2 * (i : Int) - 1)) X Y < M.score l (M.stepI l lo hi j X Y b0 k i) X Y then M.cand j k (2 * (i : Int) - 1) else M.stepI l lo hi j X Y b0 k i from rfl)
            generalize hbi : M.stepI l lo hi j X Y b0 k i = bi at *
            replace hbi := Lib.hid hbi
            have hcl := Lib.hid (show (M.cand j k (2 * (i : Int) - 1)).length = m from by rw [M.cand_len]; exact h4.out)
            have hjk := bj.out k hlt
            go_wp2_with fail
            refine (spec_try _ m cm j k _ _ h4.out (by omega) hlt (by omega) (by omega) hj.out).mono ?_
            rintro e wc hq
            obtain ⟨pn, dn, rfl, on, q⟩ := ints_view hcl.out hq
            clear hq hjk
            generalize M.cand j k (2 * (i : Int) - 1) = c at *
            replace on := Lib.hid on
            replace bb := Lib.hid (bel_after bb.out q)
            replace k0 := k0.after q
            replace kt := kt.after q
            replace hr := Lib.hid (hr.out.after q)
            replace hj := Lib.hid (hj.out.after q)
            replace bc := Lib.hid (bel_after bc.out q)
            replace mb := Lib.hid (mb.out.after q)
            replace bd := Lib.hid (bel_after bd.out q)
            clear q
            go_upto_region 12 with fail
            replace bb := Lib.hid (bel_after bb.out (bel_drew _))
            replace k0 := k0.after (bel_drew _)
            replace kt := kt.after (bel_drew _)
            replace hr := Lib.hid (hr.out.after (bel_drew _))
            replace hj := Lib.hid (hj.out.after (bel_drew _))
            replace bc := Lib.hid (bel_after bc.out (bel_drew _))
            replace mb := Lib.hid (mb.out.after (bel_drew _))
            replace bd := Lib.hid (bel_after bd.out (bel_drew _))
            replace on := Lib.hid (on.out.after (bel_drew _))
            cases hC : M.jointsB l lo hi c
            · replace hpick := Lib.hid (hpick.out.trans (if_neg (by rw [hC]; rintro ⟨h, _⟩; cases h)))
              replace hC := Lib.hid hC
              obtain ⟨x0, x1, x2, x3, x4, x5⟩ := id k0
              obtain ⟨t0, t1, t2, t3, t4⟩ := id kt
              have s := And.intro (And.intro k0.c0 (And.intro k0.c1 k0.c2)) (And.intro kt.1 kt.2.1)
              refine wp_region_held_drew (S := (fun w' => (w'.cell? ⟨w.heap.size, 0, none⟩ = some (.slice a1 n1 c1) ∧ w'.cell? ⟨w.heap.size, 1, none⟩ = some (.slice a2 n2 c2) ∧ w'.cell? ⟨w.heap.size, 2, none⟩ = some (.slice a3 n3 c3)) ∧ (w'.cell? ⟨w.heap.size + 1, 0, none⟩ = some (.int .i64 X) ∧ w'.cell? ⟨w.heap.size + 1, 1, none⟩ = some (.int .i64 Y)))) (by kernel_rfl) s (fun hHeld => ?_)
              refine wpAnyH_take (i := 0) (v := .agg #[.slice a1 n1 c1, .slice a2 n2 c2, .slice a3 n3 c3]) nth0 (by kernel_rfl) (by kernel_rfl) (by kernel_rfl) (fun _ _ _ h => h) (Or.inl ⟨by rfl, ?hy⟩) hHeld ?_
              case hy => (intro w hSw; (try dsimp only at hSw); go_simp)
              simp only [Act.put, List.setIfInBounds_toArray, List.set_cons_zero, List.set_cons_succ]
              refine wpAnyH_take (i := 1) (v := .slice pn m dn) nth1 (by kernel_rfl) (by kernel_rfl) (by kernel_rfl) (fun _ _ _ h => h) (Or.inl ⟨by rfl, ?hy⟩) hHeld ?_
              case hy => (intro w hSw; (try dsimp only at hSw); go_simp)
              simp only [Act.put, List.setIfInBounds_toArray, List.set_cons_zero, List.set_cons_succ]
              refine wpAnyH_ready (rs := [2]) (by kernel_rfl) (by simp) ?_
              refine AllReadyH.cons nth2 (fun K hK => ?_) AllReadyH.nil
              go_simp
              (go_at_call 31; refine (spec_joints a1 a2 a3 _ n1 c1 n2 c2 n3 c3 m dn l lo hi c _ h1.out h2.out h3.out hcl.out hm.out hm4 hr.out on.out.row).mono ?_; rintro e wa ⟨rfl, q⟩; rw [hC.out]; replace bb := Lib.hid (bel_after bb.out q); replace k0 := k0.after q; replace kt := kt.after q; replace hr := Lib.hid (hr.out.after q); replace hj := Lib.hid (hj.out.after q); replace bc := Lib.hid (bel_after bc.out q); replace mb := Lib.hid (mb.out.after q); replace bd := Lib.hid (bel_after bd.out q); replace on := Lib.hid (on.out.after q); clear q s; have s := And.intro (And.intro k0.c0 (And.intro k0.c1 k0.c2)) (And.intro kt.1 kt.2.1))
              clear hHeld
              refine hK.out _ _ s (fun hHeld => ?_)
              clear hK K
              refine wpAnyH_take (i := 3) (v := .bool false) nth3 (by kernel_rfl) (by kernel_rfl) (by kernel_rfl) (fun _ _ _ h => h) (Or.inl ⟨by rfl, ?hy⟩) hHeld ?_
              case hy => (intro w hSw; (try dsimp only at hSw); go_simp)
              simp only [Act.put, List.setIfInBounds_toArray, List.set_cons_zero, List.set_cons_succ]
              refine wpAnyH_take (i := 4) (v := undef) nth4 (by kernel_rfl) (by kernel_rfl) (by kernel_rfl) (fun _ _ _ h => h) (Or.inr ⟨by rfl, rfl⟩) hHeld ?_
              simp only [Act.put, List.setIfInBounds_toArray, List.set_cons_zero, List.set_cons_succ]
              refine wpAnyH_take (i := 5) (v := undef) nth5 (by kernel_rfl) (by kernel_rfl) (by kernel_rfl) (fun _ _ _ h => h) (Or.inr ⟨by rfl, rfl⟩) hHeld ?_
              simp only [Act.put, List.setIfInBounds_toArray, List.set_cons_zero, List.set_cons_succ]
              refine wpAnyH_take (i := 6) (v := undef) nth6 (by kernel_rfl) (by kernel_rfl) (by kernel_rfl) (fun _ _ _ h => h) (Or.inr ⟨by rfl, rfl⟩) hHeld ?_
              simp only [Act.put, List.setIfInBounds_toArray, List.set_cons_zero, List.set_cons_succ]
              refine wpAnyH_take (i := 7) (v := undef) nth7 (by kernel_rfl) (by kernel_rfl) (by kernel_rfl) (fun _ _ _ h => h) (Or.inr ⟨by rfl, rfl⟩) hHeld ?_
              simp only [Act.put, List.setIfInBounds_toArray, List.set_cons_zero, List.set_cons_succ]
              refine wpAnyH_take (i := 8) (v := undef) nth8 (by kernel_rfl) (by kernel_rfl) (by kernel_rfl) (fun _ _ _ h => h) (Or.inr ⟨by rfl, rfl⟩) hHeld ?_
              simp only [Act.put, List.setIfInBounds_toArray, List.set_cons_zero, List.set_cons_succ]
              refine wpAnyH_take (i := 9) (v := undef) nth9 (by kernel_rfl) (by kernel_rfl) (by kernel_rfl) (fun _ _ _ h => h) (Or.inr ⟨by rfl, rfl⟩) hHeld ?_
              simp only [Act.put, List.setIfInBounds_toArray, List.set_cons_zero, List.set_cons_succ]
              refine wpAnyH_take (i := 10) (v := undef) nth10 (by kernel_rfl) (by kernel_rfl) (by kernel_rfl) (fun _ _ _ h => h) (Or.inr ⟨by rfl, rfl⟩) hHeld ?_
              simp only [Act.put, List.setIfInBounds_toArray, List.set_cons_zero, List.set_cons_succ]
              refine wpAnyH_take (i := 11) (v := .bool false) nth11 (by kernel_rfl) (by kernel_rfl) (by kernel_rfl) (fun _ _ _ h => h) (Or.inl ⟨by rfl, ?hy⟩) hHeld ?_
              case hy => (intro w hSw; (try dsimp only at hSw); go_simp)
              simp only [Act.put, List.setIfInBounds_toArray, List.set_cons_zero, List.set_cons_succ]
              refine wpAnyH_done (by kernel_rfl) ?_ _
              all_goals
                go_wp2_with fail
                go_roundw
                case rel => exact ⟨i + 1, by go_num, by omega, by rw [hpick.out], by rw [hpick.out]; exact mb, bd.out⟩
                case measure => simp [intOf]; omega
            · replace hC := Lib.hid hC
              by_cases hs : M.score l c X Y < M.score l bi X Y
              · replace hpick := Lib.hid (hpick.out.trans (if_pos ⟨hC.out, hs⟩))
                obtain ⟨x0, x1, x2, x3, x4, x5⟩ := id k0
                obtain ⟨t0, t1, t2, t3, t4⟩ := id kt
                have s := And.intro (And.intro k0.c0 (And.intro k0.c1 k0.c2)) (And.intro kt.1 kt.2.1)
                go_region_held3 (fun w' => (w'.cell? ⟨w.heap.size, 0, none⟩ = some (.slice a1 n1 c1) ∧ w'.cell? ⟨w.heap.size, 1, none⟩ = some (.slice a2 n2 c2) ∧ w'.cell? ⟨w.heap.size, 2, none⟩ = some (.slice a3 n3 c3)) ∧ (w'.cell? ⟨w.heap.size + 1, 0, none⟩ = some (.int .i64 X) ∧ w'.cell? ⟨w.heap.size + 1, 1, none⟩ = some (.int .i64 Y))) (first | (with_reducible assumption) | go_keep) (first | (go_at_call 31; refine (spec_joints a1 a2 a3 _ n1 c1 n2 c2 n3 c3 m dn l lo hi c _ h1.out h2.out h3.out hcl.out hm.out hm4 hr.out on.out.row).mono ?_; rintro e wa ⟨rfl, q⟩; rw [hC.out]; replace bb := Lib.hid (bel_after bb.out q); replace k0 := k0.after q; replace kt := kt.after q; replace hr := Lib.hid (hr.out.after q); replace hj := Lib.hid (hj.out.after q); replace bc := Lib.hid (bel_after bc.out q); replace mb := Lib.hid (mb.out.after q); replace bd := Lib.hid (bel_after bd.out q); replace on := Lib.hid (on.out.after q); clear q s; have s := And.intro (And.intro k0.c0 (And.intro k0.c1 k0.c2)) (And.intro kt.1 kt.2.1)) | (go_at_call 40; refine (spec_tipV a1 a2 a3 _ n1 c1 n2 c2 n3 c3 m dn l lo hi c _ h1.out hcl.out hC.out hr.out on.out.row).mono ?_; rintro e wt ⟨rfl, q⟩; replace bb := Lib.hid (bel_after bb.out q); replace k0 := k0.after q; replace kt := kt.after q; replace hr := Lib.hid (hr.out.after q); replace hj := Lib.hid (hj.out.after q); replace bc := Lib.hid (bel_after bc.out q); replace mb := Lib.hid (mb.out.after q); replace bd := Lib.hid (bel_after bd.out q); replace on := Lib.hid (on.out.after q); clear q s; have s := And.intro (And.intro k0.c0 (And.intro k0.c1 k0.c2)) (And.intro kt.1 kt.2.1)) | (go_at_call 57; refine (spec_score l lo hi c m X Y _ hcl.out hC.out hP.out).mono ?_; rintro e wb ⟨rfl, q⟩; replace bb := Lib.hid (bel_after bb.out q); replace k0 := k0.after q; replace kt := kt.after q; replace hr := Lib.hid (hr.out.after q); replace hj := Lib.hid (hj.out.after q); replace bc := Lib.hid (bel_after bc.out q); replace mb := Lib.hid (mb.out.after q); replace bd := Lib.hid (bel_after bd.out q); replace on := Lib.hid (on.out.after q); clear q s; have s := And.intro (And.intro k0.c0 (And.intro k0.c1 k0.c2)) (And.intro kt.1 kt.2.1)))
                all_goals
                  clear s x0 x1 x2 x3 x4 x5 t0 t1 t2 t3 t4
                  obtain ⟨x0, x1, x2, x3, x4, x5⟩ := id k0
                  obtain ⟨t0, t1, t2, t3, t4⟩ := id kt
                  go_wp2_with fail
                  clear x0 x1 x2 x3 x4 x5 t0 t1 t2 t3 t4
                  have _tok := True.intro
                  replace bb := Lib.hid (bel_after bb.out (bel_drew _))
                  replace k0 := k0.after (bel_drew _)
                  replace kt := kt.after (bel_drew _)
                  replace hr := Lib.hid (hr.out.after (bel_drew _))
                  replace hj := Lib.hid (hj.out.after (bel_drew _))
                  replace bc := Lib.hid (bel_after bc.out (bel_drew _))
                  replace mb := Lib.hid (mb.out.after (bel_drew _))
                  replace bd := Lib.hid (bel_after bd.out (bel_drew _))
                  replace on := Lib.hid (on.out.after (bel_drew _))
                  have s := And.intro (And.intro k0.c0 (And.intro k0.c1 k0.c2)) (And.intro kt.1 kt.2.1)
                  go_region_held3 (fun w' => (w'.cell? ⟨w.heap.size, 0, none⟩ = some (.slice a1 n1 c1) ∧ w'.cell? ⟨w.heap.size, 1, none⟩ = some (.slice a2 n2 c2) ∧ w'.cell? ⟨w.heap.size, 2, none⟩ = some (.slice a3 n3 c3)) ∧ (w'.cell? ⟨w.heap.size + 1, 0, none⟩ = some (.int .i64 X) ∧ w'.cell? ⟨w.heap.size + 1, 1, none⟩ = some (.int .i64 Y))) (first | (with_reducible assumption) | go_keep) (first | (go_at_call 40; refine (spec_tipV a1 a2 a3 _ n1 c1 n2 c2 n3 c3 m dn l lo hi c _ h1.out hcl.out hC.out hr.out on.out.row).mono ?_; rintro e wa ⟨rfl, q⟩; replace bb := Lib.hid (bel_after bb.out q); replace k0 := k0.after q; replace kt := kt.after q; replace hr := Lib.hid (hr.out.after q); replace hj := Lib.hid (hj.out.after q); replace bc := Lib.hid (bel_after bc.out q); replace mb := Lib.hid (mb.out.after q); replace bd := Lib.hid (bel_after bd.out q); replace on := Lib.hid (on.out.after q); clear q s; have s := And.intro (And.intro k0.c0 (And.intro k0.c1 k0.c2)) (And.intro kt.1 kt.2.1)) | (go_at_call 57; refine (spec_score l lo hi c m X Y _ hcl.out hC.out hP.out).mono ?_; rintro e wb ⟨rfl, q⟩; replace bb := Lib.hid (bel_after bb.out q); replace k0 := k0.after q; replace kt := kt.after q; replace hr := Lib.hid (hr.out.after q); replace hj := Lib.hid (hj.out.after q); replace bc := Lib.hid (bel_after bc.out q); replace mb := Lib.hid (mb.out.after q); replace bd := Lib.hid (bel_after bd.out q); replace on := Lib.hid (on.out.after q); clear q s; have s := And.intro (And.intro k0.c0 (And.intro k0.c1 k0.c2)) (And.intro kt.1 kt.2.1)))
                  clear s
                  all_goals
                    go_wp2_with fail
                    go_roundw
                    case rel => exact ⟨i + 1, by go_num, by omega, by rw [hpick.out], by rw [hpick.out]; exact on.out.base2 (by omega), bd.out⟩
                    case measure => simp [intOf]; omega
              · replace hpick := Lib.hid (hpick.out.trans (if_neg (fun h => hs h.2)))
                obtain ⟨x0, x1, x2, x3, x4, x5⟩ := id k0
                obtain ⟨t0, t1, t2, t3, t4⟩ := id kt
                have s := And.intro (And.intro k0.c0 (And.intro k0.c1 k0.c2)) (And.intro kt.1 kt.2.1)
                go_region_held3 (fun w' => (w'.cell? ⟨w.heap.size, 0, none⟩ = some (.slice a1 n1 c1) ∧ w'.cell? ⟨w.heap.size, 1, none⟩ = some (.slice a2 n2 c2) ∧ w'.cell? ⟨w.heap.size, 2, none⟩ = some (.slice a3 n3 c3)) ∧ (w'.cell? ⟨w.heap.size + 1, 0, none⟩ = some (.int .i64 X) ∧ w'.cell? ⟨w.heap.size + 1, 1, none⟩ = some (.int .i64 Y))) (first | (with_reducible assumption) | go_keep) (first | (go_at_call 31; refine (spec_joints a1 a2 a3 _ n1 c1 n2 c2 n3 c3 m dn l lo hi c _ h1.out h2.out h3.out hcl.out hm.out hm4 hr.out on.out.row).mono ?_; rintro e wa ⟨rfl, q⟩; rw [hC.out]; replace bb := Lib.hid (bel_after bb.out q); replace k0 := k0.after q; replace kt := kt.after q; replace hr := Lib.hid (hr.out.after q); replace hj := Lib.hid (hj.out.after q); replace bc := Lib.hid (bel_after bc.out q); replace mb := Lib.hid (mb.out.after q); replace bd := Lib.hid (bel_after bd.out q); replace on := Lib.hid (on.out.after q); clear q s; have s := And.intro (And.intro k0.c0 (And.intro k0.c1 k0.c2)) (And.intro kt.1 kt.2.1)) | (go_at_call 40; refine (spec_tipV a1 a2 a3 _ n1 c1 n2 c2 n3 c3 m dn l lo hi c _ h1.out hcl.out hC.out hr.out on.out.row).mono ?_; rintro e wt ⟨rfl, q⟩; replace bb := Lib.hid (bel_after bb.out q); replace k0 := k0.after q; replace kt := kt.after q; replace hr := Lib.hid (hr.out.after q); replace hj := Lib.hid (hj.out.after q); replace bc := Lib.hid (bel_after bc.out q); replace mb := Lib.hid (mb.out.after q); replace bd := Lib.hid (bel_after bd.out q); replace on := Lib.hid (on.out.after q); clear q s; have s := And.intro (And.intro k0.c0 (And.intro k0.c1 k0.c2)) (And.intro kt.1 kt.2.1)) | (go_at_call 57; refine (spec_score l lo hi c m X Y _ hcl.out hC.out hP.out).mono ?_; rintro e wb ⟨rfl, q⟩; replace bb := Lib.hid (bel_after bb.out q); replace k0 := k0.after q; replace kt := kt.after q; replace hr := Lib.hid (hr.out.after q); replace hj := Lib.hid (hj.out.after q); replace bc := Lib.hid (bel_after bc.out q); replace mb := Lib.hid (mb.out.after q); replace bd := Lib.hid (bel_after bd.out q); replace on := Lib.hid (on.out.after q); clear q s; have s := And.intro (And.intro k0.c0 (And.intro k0.c1 k0.c2)) (And.intro kt.1 kt.2.1)))
                all_goals
                  go_wp2_with fail
                  go_roundw
                  case rel => exact ⟨i + 1, by go_num, by omega, by rw [hpick.out], by rw [hpick.out]; exact mb, bd.out⟩
                  case measure => simp [intOf]; omega
          · obtain rfl : i = 2 := by omega
            go_wp2_with fail
            go_roundw
            case rel => exact ⟨k + 1, by go_num, by omega, by rw [hstep.out], by rw [hstep.out]; exact mb, bc.out⟩
            case measure => simp [intOf]; omega
      · obtain rfl : k = m := by omega
        have hlast := Lib.hid (show M.stepK l lo hi j X Y k = M.stepJ l lo hi j X Y from by unfold M.stepJ; rw [h4.out])
        go_wp2_with fail
        go_ret
        exact ints_fin (hlast.out.trans hfin.out) mb.out bb.out
end Go.Proofs.YtegmhflbndnadaaDoor
