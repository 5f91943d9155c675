/- Proves the tied card of the law FnStepJoints: it returns true for every input, the tables of the sine being as laid by the program text. -/
import Derived.Test.YtegmhflbndnadaaDoorCards
import Derived.Test.YtegmhflbndnadaaDoorTie
import Derived.Test.YtegmhflbndnadaaDoorLaid
import Derived.Test.YtegmhflbndnadaaDoorDraws2
import Derived.Test.YtegmhflbndnadaaDoorStep
import Derived.Test.YtegmhflbndnadaaDoorAlive
import Derived.ChangeOld
import Derived.ShutString
import Derived.Lib.SmallJoins
import Derived.LaidMore
import Derived.Stop.Joined
import Derived.SevenTiedAt
import Derived.Deep.RegionHeld3
import Derived.Deep.DeepCutAuto
import Derived.Deep.CutBlock
namespace Go.Proofs.YtegmhflbndnadaaDoor.fnStepJoints
open Go.ChangeShapes Go.WideShapes Go.ChangeAt Go.RowKit
set_option linter.unusedVariables false
theorem abs_int (n : Int) (w : World) (h1 : -1000000 ≤ n) (h2 : n ≤ 1000000) : Calls Tryd.prog 38 #[.int .i64 n] w fun e w' => e = .returned (.int .i64 (max n (-n))) ∧ w' = w := by
  by_cases h : n < -n
  · go_enter Tryd.func38, Tryd.ntmps38
    go_wp2
    go_ret
    exact ⟨ret_int (by omega), rfl⟩
  · go_enter Tryd.func38, Tryd.ntmps38
    go_wp2
    go_ret
    exact ⟨ret_int (by omega), rfl⟩
theorem M.step_ne {l lo hi j : List Int} {X Y : Int} (h : ¬ (M.step l lo hi j X Y).length = 0) : (M.jointsB l lo hi j = true ∧ M.pvB X Y = true) ∧ M.Near l lo hi j X Y (M.step l lo hi j X Y) := by
  by_cases hk : M.jointsB l lo hi j = true ∧ M.pvB X Y = true
  · rw [← M.step_yes hk.1 hk.2]
    exact ⟨hk, M.near_step hk.1⟩
  · exfalso; apply h; unfold M.step; rw [if_neg hk]; rfl
theorem M.sq_tip {l lo hi j : List Int} (X Y : Int) (h : M.jointsB l lo hi j = true) : M.sq (M.tipX l lo hi j) (M.tipY l lo hi j) X Y = M.score l j X Y := by
  unfold M.score
  rw [(M.tip_yes h).1, (M.tip_yes h).2]
set_option maxRecDepth 20000 in
set_option maxHeartbeats 8000000 in
theorem walk (a0 : Option Addr) (len0 cap0 : Nat) (z0 : List Int) (w : World) (w0 : IsRow .u8 w a0 len0 cap0 z0) (hT : Tables w) :
    Calls Tryd.prog 8 #[.slice a0 len0 cap0] w fun e w' => e = .returned (.bool true) ∧ Below w.heap.size w w' := by
  replace hT := Lib.hid hT
  by_cases hlen : (1048576 : Int) < len0
  · go_enter Tryd.func8, Tryd.ntmps8
    go_wp2
    go_ret
    exact ⟨rfl, Below.refl _ _⟩
  · go_enter Tryd.func8, Tryd.ntmps8
    go_wp2_with fail
    refine (draw_StepJoints a0 len0 cap0 z0 _ w0).mono ?_
    rintro e w1 ⟨a1, n1, c1, a2, n2, c2, a3, n3, c3, l, lo, hi, aj, nj, cj, J, X, Y, rfl, hf, hjf, q⟩
    have bb := Lib.hid q
    clear w0 hlen q
    replace hT := Lib.hid (hT.out.later bb.out)
    obtain ⟨h1, h2, h3⟩ := hf.len
    obtain ⟨m1, m2, m3⟩ := hf.le
    obtain ⟨cp1, cp3⟩ := hf.cap
    have hr := Lib.hid hf.row
    have hr1 := hr
    have bc := Lib.hid (Below.refl w1.heap.size w1)
    have hq1 := bb
    have hj4 := hjf.len
    have hj6 := hjf.le
    have hj := Lib.hid hjf.s.row
    have hjb := Lib.hid hjf.bd
    clear hjf
    replace hj4 := Lib.hid hj4
    replace h1 := Lib.hid h1
    replace h2 := Lib.hid h2
    replace h3 := Lib.hid h3
    clear hf
    have hnb : (M.step l lo hi J X Y).length ≤ 1000000 := (by have := M.step_len l lo hi J X Y; rw [hj4.out] at this; omega)
    obtain ⟨nL, hn⟩ : ∃ n, (M.step l lo hi J X Y).length = n := ⟨_, rfl⟩
    rw [hn] at hnb
    generalize hL : M.step l lo hi J X Y = L at *
    replace hL := Lib.hid hL
    replace hn := Lib.hid hn
    go_wp2_with fail
    have k0 := (Cell3.new w1 (.slice a1 n1 c1) (.slice a2 n2 c2) (.slice a3 n3 c3) 29).alloc (.cells #[.int .i64 X, .int .i64 Y] 27)
    have kp := Slot.new (w1.alloc (.cells #[.slice a1 n1 c1, .slice a2 n2 c2, .slice a3 n3 c3] 29)) X Y 27
    rw [World.size_alloc] at kp
    replace bb := Lib.hid (bel_after bb.out (bel_new w1 (.cells #[.slice a1 n1 c1, .slice a2 n2 c2, .slice a3 n3 c3] 29)))
    replace hT := Lib.hid (hT.out.later (bel_new w1 (.cells #[.slice a1 n1 c1, .slice a2 n2 c2, .slice a3 n3 c3] 29)))
    replace hr := Lib.hid (hr.out.after (bel_new w1 (.cells #[.slice a1 n1 c1, .slice a2 n2 c2, .slice a3 n3 c3] 29)))
    replace bc := Lib.hid (bel_after bc.out (bel_new w1 (.cells #[.slice a1 n1 c1, .slice a2 n2 c2, .slice a3 n3 c3] 29)))
    replace hj := Lib.hid (hj.out.after (bel_new w1 (.cells #[.slice a1 n1 c1, .slice a2 n2 c2, .slice a3 n3 c3] 29)))
    replace bb := Lib.hid (bel_after bb.out (bel_new (w1.alloc (.cells #[.slice a1 n1 c1, .slice a2 n2 c2, .slice a3 n3 c3] 29)) (.cells #[.int .i64 X, .int .i64 Y] 27)))
    replace hT := Lib.hid (hT.out.later (bel_new (w1.alloc (.cells #[.slice a1 n1 c1, .slice a2 n2 c2, .slice a3 n3 c3] 29)) (.cells #[.int .i64 X, .int .i64 Y] 27)))
    replace hr := Lib.hid (hr.out.after (bel_new (w1.alloc (.cells #[.slice a1 n1 c1, .slice a2 n2 c2, .slice a3 n3 c3] 29)) (.cells #[.int .i64 X, .int .i64 Y] 27)))
    replace bc := Lib.hid (bel_after bc.out (bel_new (w1.alloc (.cells #[.slice a1 n1 c1, .slice a2 n2 c2, .slice a3 n3 c3] 29)) (.cells #[.int .i64 X, .int .i64 Y] 27)))
    replace hj := Lib.hid (hj.out.after (bel_new (w1.alloc (.cells #[.slice a1 n1 c1, .slice a2 n2 c2, .slice a3 n3 c3] 29)) (.cells #[.int .i64 X, .int .i64 Y] 27)))
    generalize hK : w1.heap.size = K at k0 kp ⊢
    have hKw : w1.heap.size ≤ K := Nat.le_of_eq hK
    clear hK
    generalize (w1.alloc (.cells #[.slice a1 n1 c1, .slice a2 n2 c2, .slice a3 n3 c3] 29)).alloc (.cells #[.int .i64 X, .int .i64 Y] 27) = v at *
    obtain ⟨w2, rfl⟩ : ∃ u : World, u = v := ⟨_, rfl⟩
    refine (impl_step a1 a2 a3 aj n1 c1 n2 c2 n3 c3 nj cj l lo hi J X Y _ hT.out h1.out h2.out h3.out hj4.out (by omega) (by omega) hr.out hj.out).mono ?_
    rintro e w3 hq
    rw [hL.out] at hq
    obtain ⟨xg, yg, rfl, mg, q⟩ := ints_view hn.out hq
    replace bb := Lib.hid (bel_after bb.out q)
    replace hT := Lib.hid (hT.out.later q)
    replace hr := Lib.hid (hr.out.after q)
    replace bc := Lib.hid (bel_after bc.out q)
    replace hj := Lib.hid (hj.out.after q)
    replace k0 := k0.after q
    replace kp := kp.after q
    clear q hq
    replace mg := Lib.hid mg
    obtain ⟨k0x, k0y, k0z, k0u, k0v, k0w⟩ := id k0
    obtain ⟨kpx, kpy, kpz, kpu, kpv⟩ := id kp
    go_wp2_with fail
    clear k0x k0y k0z k0u k0v k0w kpx kpy kpz kpu kpv
    refine (spec_step a1 a2 a3 aj n1 c1 n2 c2 n3 c3 nj cj l lo hi J X Y _ h1.out h2.out h3.out hj4.out (by omega) (by omega) hr.out hj.out).mono ?_
    rintro e w4 hq
    rw [hL.out] at hq
    obtain ⟨xw, yw, rfl, mw, q⟩ := ints_view hn.out hq
    replace bb := Lib.hid (bel_after bb.out q)
    replace hT := Lib.hid (hT.out.later q)
    replace hr := Lib.hid (hr.out.after q)
    replace bc := Lib.hid (bel_after bc.out q)
    replace hj := Lib.hid (hj.out.after q)
    replace k0 := k0.after q
    replace kp := kp.after q
    replace mg := Lib.hid (mg.out.after q)
    clear q hq
    replace mw := Lib.hid mw
    obtain ⟨k0x, k0y, k0z, k0u, k0v, k0w⟩ := id k0
    obtain ⟨kpx, kpy, kpz, kpu, kpv⟩ := id kp
    go_wp2_with fail
    clear k0x k0y k0z k0u k0v k0w kpx kpy kpz kpu kpv
    refine (same_ints_yes xg xw nL yg yw L _ hn.out (by omega) mg.out.row mw.out.row).mono ?_
    rintro e w5 ⟨rfl, q⟩
    have z5 := q.size
    replace bb := Lib.hid (bel_after bb.out q)
    replace hT := Lib.hid (hT.out.later q)
    replace hr := Lib.hid (hr.out.after q)
    replace bc := Lib.hid (bel_after bc.out q)
    replace hj := Lib.hid (hj.out.after q)
    replace k0 := k0.after q
    replace kp := kp.after q
    replace mg := Lib.hid (mg.out.after q)
    replace mw := Lib.hid (mw.out.after q)
    clear q
    clear mw
    by_cases hz : nL = 0
    · have hz2 : ((nL : Int) == 0) = true := by simp [hz]
      replace hz := Lib.hid hz
      obtain ⟨x0, x1, x2, x3, x4, x5⟩ := id k0
      obtain ⟨t0, t1, t2, t3, t4⟩ := id kp
      go_wp2_with (go_at_call 19; refine (alive _).mono ?_; rintro e w' ⟨rfl, rfl⟩)
      go_ret
      exact ⟨rfl, bb.out⟩
    · have hz2 : ((nL : Int) == 0) = false := by simp; exact hz
      obtain ⟨⟨hA, hP⟩, hnear⟩ := M.step_ne (l := l) (lo := lo) (hi := hi) (j := J) (X := X) (Y := Y) (by rw [hL.out, hn.out]; exact hz)
      rw [hL.out] at hnear
      have hdf := Lib.hid (M.near_diff hnear)
      obtain ⟨g1_, g2_, g3_, _⟩ := hnear
      obtain rfl : nL = nj := by rw [← hn.out, g1_, hj4.out]
      obtain ⟨⟨e1, e2⟩, e3, _, bJ⟩ := M.joints_bds hA
      obtain ⟨_, _, _, bL⟩ := M.joints_bds g2_
      rw [hj4.out] at e1 e2 e3 bJ
      rw [hn.out] at bL
      rw [h1.out] at e3
      have e5 : nL ≤ n1 := by omega
      have e6 : n1 ≤ nL := by omega
      clear e3 g1_ hz
      have hsL := Lib.hid (M.sq_tip X Y g2_)
      have hsJ := Lib.hid (M.sq_tip X Y hA)
      have hgL := Lib.hid g2_
      replace hA := Lib.hid hA
      replace hP := Lib.hid hP
      clear g2_
      replace bL := Lib.hid bL
      replace bJ := Lib.hid bJ
      generalize hSL : M.score l L X Y = SL at *
      generalize hSJ : M.score l J X Y = SJ at *
      clear hSL hSJ
      obtain ⟨bj, oj, rfl⟩ := hj.out.form (by rw [hj4.out]; omega)
      obtain ⟨bg, og, rfl⟩ := mg.out.row.form (by rw [hn.out]; omega)
      obtain ⟨k0x, k0y, k0z, k0u, k0v, k0w⟩ := id k0
      obtain ⟨kpx, kpy, kpz, kpu, kpv⟩ := id kp
      go_wp2_with fail
      clear k0x k0y k0z k0u k0v k0w kpx kpy kpz kpu kpv
      go_loopw [7, 8] (fun q i wr => ∃ k : Nat, i = .int .i64 k ∧ k ≤ nL ∧ q = .int .i64 (M.diffT L J k) ∧ Hid (Below w5.heap.size w5 wr)) (fun _ i _ => nL - (intOf i).toNat)
      case atStart => exact ⟨0, rfl, Nat.zero_le _, rfl, Below.refl _ _⟩
      case round =>
        obtain ⟨k, rfl, hk, rfl, bd⟩ := hrel
        replace bb := Lib.hid (bel_after bb.out bd.out)
        replace hT := Lib.hid (hT.out.later bd.out)
        replace hr := Lib.hid (hr.out.after bd.out)
        replace hj := Lib.hid (hj.out.after bd.out)
        replace k0 := k0.after bd.out
        replace kp := kp.after bd.out
        replace mg := Lib.hid (mg.out.after bd.out)
        by_cases hlt : k < nL
        · have hk2 : (k : Int) < (nL : Int) := by omega
          have y1 := mg.out.row.cell (Below.refl _ _) (k := k) (by rw [hn.out]; omega)
          have y2 := hj.out.cell (Below.refl _ _) (k := k) (by rw [hj4.out]; omega)
          have hb1 := bL.out k hlt
          have hb2 := bJ.out k hlt
          have hdk := hdf.out k
          have hds := Lib.hid (show M.diffT L J (k + 1) = M.diffT L J k + max (L.getD k 0 - J.getD k 0) (-(L.getD k 0 - J.getD k 0)) from rfl)
          generalize L.getD k 0 = x at *
          generalize J.getD k 0 = y at *
          generalize M.diffT L J k = dk at *
          obtain ⟨hb3, hb4⟩ := hb1
          obtain ⟨hb5, hb6⟩ := hb2
          obtain ⟨hd1, hd2⟩ := hdk
          have ew1 : IntKind.i64.wrap (x - y) = x - y := IntWalk.i64_in _ (by omega)
          have ew2 : IntKind.i64.wrap (dk + max (x - y) (-(x - y))) = dk + max (x - y) (-(x - y)) := IntWalk.i64_in _ (by omega)
          go_wp2_with fail
          go_quiet ((go_at_call 38; refine Calls.quiet_of_same (abs_int _ _ (by omega) (by omega))))
          go_wp2_with fail
          go_roundw
          case rel => exact ⟨k + 1, by go_num, by omega, by rw [hds.out], ⟨bd.out.os, bd.out.tape, bd.out.output, bd.out.size, bd.out.block⟩⟩
          case measure => simp [intOf]; omega
        · obtain rfl : k = nL := by omega
          obtain ⟨hd1, hd2⟩ := hdf.out k
          generalize M.diffT L J k = dk at *
          obtain ⟨k0x, k0y, k0z, k0u, k0v, k0w⟩ := id k0
          obtain ⟨kpx, kpy, kpz, kpu, kpv⟩ := id kp
          go_wp2_with fail
          clear k0x k0y k0z k0u k0v k0w kpx kpy kpz kpu kpv
          replace bb := Lib.hid (bel_after bb.out (bel_drew _))
          replace hT := Lib.hid (hT.out.later (bel_drew _))
          replace hr := Lib.hid (hr.out.after (bel_drew _))
          replace hj := Lib.hid (hj.out.after (bel_drew _))
          replace k0 := k0.after (bel_drew _)
          replace kp := kp.after (bel_drew _)
          replace mg := Lib.hid (mg.out.after (bel_drew _))
          replace bd := Lib.hid (bel_after bd.out (bel_drew _))
          have s := And.intro (And.intro k0.c0 (And.intro k0.c1 k0.c2)) (And.intro kp.1 kp.2.1)
          have tk0 := True.intro
          have tq0 := True.intro
          go_region_held3 (fun w' => (w'.cell? ⟨K, 0, none⟩ = some (.slice a1 n1 c1) ∧ w'.cell? ⟨K, 1, none⟩ = some (.slice a2 n2 c2) ∧ w'.cell? ⟨K, 2, none⟩ = some (.slice a3 n3 c3)) ∧ (w'.cell? ⟨K + 1, 0, none⟩ = some (.int .i64 X) ∧ w'.cell? ⟨K + 1, 1, none⟩ = some (.int .i64 Y))) (first | (with_reducible assumption) | go_keep) (first | (go_at_call 22; refine (impl_joints a1 a2 a3 _ n1 c1 n2 c2 n3 c3 k yg l lo hi L _ h1.out h2.out h3.out hn.out (by omega) (by omega) hr.out mg.out.row).mono ?_; rintro e wj ⟨rfl, q⟩; rw [hgL.out]; replace bb := Lib.hid (bel_after bb.out q); replace hT := Lib.hid (hT.out.later q); replace hr := Lib.hid (hr.out.after q); replace hj := Lib.hid (hj.out.after q); replace k0 := k0.after q; replace kp := kp.after q; replace mg := Lib.hid (mg.out.after q); replace bd := Lib.hid (bel_after bd.out q); clear q s; have s := And.intro (And.intro k0.c0 (And.intro k0.c1 k0.c2)) (And.intro kp.1 kp.2.1)) | (clear tk0; go_at_call 13; refine (impl_tipOf a1 a2 a3 _ n1 c1 n2 c2 n3 c3 k yg l lo hi L _ hT.out h1.out h2.out h3.out hn.out (by omega) (by omega) hr.out mg.out.row).mono ?_; rintro e wt0 ⟨rfl, q⟩; replace bb := Lib.hid (bel_after bb.out q); replace hT := Lib.hid (hT.out.later q); replace hr := Lib.hid (hr.out.after q); replace hj := Lib.hid (hj.out.after q); replace k0 := k0.after q; replace kp := kp.after q; replace mg := Lib.hid (mg.out.after q); replace bd := Lib.hid (bel_after bd.out q); clear q s; have s := And.intro (And.intro k0.c0 (And.intro k0.c1 k0.c2)) (And.intro kp.1 kp.2.1)) | (clear tq0; go_at_call 21; refine (impl_sq _ _ X Y _).mono ?_; rintro e wq0 ⟨rfl, q⟩; rw [hsL.out]; replace bb := Lib.hid (bel_after bb.out q); replace hT := Lib.hid (hT.out.later q); replace hr := Lib.hid (hr.out.after q); replace hj := Lib.hid (hj.out.after q); replace k0 := k0.after q; replace kp := kp.after q; replace mg := Lib.hid (mg.out.after q); replace bd := Lib.hid (bel_after bd.out q); clear q s; have s := And.intro (And.intro k0.c0 (And.intro k0.c1 k0.c2)) (And.intro kp.1 kp.2.1)) | (go_at_call 13; refine (impl_tipOf a1 a2 a3 _ n1 c1 n2 c2 n3 c3 k cj l lo hi J _ hT.out h1.out h2.out h3.out hj4.out (by omega) (by omega) hr.out hj.out).mono ?_; rintro e wt1 ⟨rfl, q⟩; replace bb := Lib.hid (bel_after bb.out q); replace hT := Lib.hid (hT.out.later q); replace hr := Lib.hid (hr.out.after q); replace hj := Lib.hid (hj.out.after q); replace k0 := k0.after q; replace kp := kp.after q; replace mg := Lib.hid (mg.out.after q); replace bd := Lib.hid (bel_after bd.out q); clear q s; have s := And.intro (And.intro k0.c0 (And.intro k0.c1 k0.c2)) (And.intro kp.1 kp.2.1)) | (go_at_call 21; refine (impl_sq _ _ X Y _).mono ?_; rintro e wq1 ⟨rfl, q⟩; rw [hsJ.out]; replace bb := Lib.hid (bel_after bb.out q); replace hT := Lib.hid (hT.out.later q); replace hr := Lib.hid (hr.out.after q); replace hj := Lib.hid (hj.out.after q); replace k0 := k0.after q; replace kp := kp.after q; replace mg := Lib.hid (mg.out.after q); replace bd := Lib.hid (bel_after bd.out q); clear q s; have s := And.intro (And.intro k0.c0 (And.intro k0.c1 k0.c2)) (And.intro kp.1 kp.2.1)))
          all_goals
            go_wp2_with fail
            go_ret
            exact ⟨rfl, bb.out⟩
theorem own : ownKnob Tryd.prog.godebug = none := by kernel_rfl
theorem laidOut : laidOutB Tryd.prog = true := by kernel_rfl
set_option maxRecDepth 100000 in
theorem lifted (os : Os) (started : os.Started) (H : Type) (enc : TypeId × Value → H) :
    ReturnsInHanded {} Tryd.checked os 8 .any (fun w args => (Rows.fnStepJointsSpec.pre enc Tryd.prog Tryd.f8 [] false w args ∧ laidMetH Tryd.prog laid3 w) ∧ sizedMet enc Tryd.prog Tryd.f8 (OpenSpec.ofChange Rows.fnStepJointsSpec) false w args)
      (Rows.fnStepJointsSpec.post enc Tryd.prog Tryd.f8 false true false false) := by
  refine returnsInHanded_of_change_and (C := Tryd.checked) (X := fun w _ => laidMetH Tryd.prog laid3 w) (fun _ _ _ hh h => h.of_heap hh) own started (by kernel_rfl) Tryd.func8
    (ChangeSpec.witness_shaped (enc := enc) (C := Tryd.checked) (os := os) (X := fun w _ => laidMetH Tryd.prog laid3 w) false (World.doorLaid Tryd.prog 24 os) #[.slice none 0 0] 8 rfl (World.shaped_of_RefB (by kernel_rfl) (by kernel_rfl)) (by kernel_rfl) (by kernel_rfl) (by kernel_rfl) (door_met os _)) ?_
  intro W base args ds gs before hval0 hW _ _ hL _
  have hval : ∀ (j : Nat) t v, Tryd.f8.params[j]? = some t → args[j]? = some v → Value.okWide Tryd.prog W .any base t v := hval0
  have hW' := hW
  obtain ⟨p, q, hA0, hV, rfl, hfz, hnd⟩ := hW
  have hA : DataW.TrodAll enc Tryd.prog W 0 (fun _ => true) true Tryd.f8.params.toList args.toList ds p := hA0
  rw [Tryd.params8] at hA hval
  obtain ⟨v0_, vs0, d0, ds0, p0, q0, hargs, rfl, rfl, h0, r0⟩ := trodAll_cons hA
  obtain ⟨rfl, rfl, rfl⟩ := trodAll_nil r0
  obtain rfl : args = #[v0_] := by cases args; simp_all
  obtain ⟨rfl, rfl⟩ := trodVars_none hV
  obtain ⟨a0, len0, cap0, rfl⟩ := okWide_slice Tryd.underlying36 (hval 0 36 v0_ rfl rfl)
  have k0 := h0
  have lt0 : ∀ x ∈ p0, x.block < W.heap.size := by obtain ⟨m, hm⟩ := k0; exact DataW.trod_lt m _ _ _ hm
  obtain ⟨z0, w0⟩ : ∃ zs, IsRow .u8 W a0 len0 cap0 zs := by
    obtain ⟨fuel, hf⟩ := h0
    rcases open_ints Tryd.underlying36 Tryd.underlying5 (by kernel_rfl) hf with ⟨hcs, _⟩ | ⟨x, l, c, zs, hcs, _, hl, hm, hz, _, hcell, hwz⟩
    · simp [Value.cells] at hcs
      obtain ⟨rfl, rfl, rfl⟩ := hcs
      exact ⟨[], .inl ⟨rfl, rfl, rfl, rfl⟩⟩
    · simp [Value.cells] at hcs
      obtain ⟨rfl, rfl, rfl⟩ := hcs
      exact ⟨zs, .inr ⟨_, rfl, hl, hm, by simpa using hz, hcell, hwz⟩⟩
  clear hA0 hval0
  refine (walk a0 len0 cap0 z0 W w0 (of_laid hL)).mono fun e W' ⟨he, bel⟩ => ?_
  subst he
  exact ⟨_, rfl, _, _, _, [], _, [], hW', trodAll_mk1 (shut_bool Tryd.underlying4 _), (trodAll_cons_mk (Below.trod laidOut (by kernel_rfl) (of_decide_eq_true (by kernel_rfl)) k0 bel lt0) trodAll_mk0), rfl, bel.frame _, fun h => by cases h⟩
theorem over : Rows.FnStepJointsSaid :=
  OpenClaim.holds_of_wide 8 Tryd.f8 rfl rfl rfl rfl rfl rfl rfl ⟨rfl, rfl, rfl, rfl, rfl⟩ rfl rfl rfl rfl rfl (by kernel_rfl) Tryd.func8 (by kernel_rfl)
    (of_decide_eq_true (by kernel_rfl)) (by unfold Func.isWrapper; first | (rw [if_pos (by decide +kernel)]; kernel_rfl) | (rw [if_neg (by decide +kernel)]; exact ⟨rfl, rfl⟩))
    (fun os started H enc _ => lifted os started H enc)
theorem proved : Rows.FnStepJointsCardSaid :=
  Claim7.holds_tied_plain_at .later [] [.data, .data, .data] true (true, "03f185bd6a0039b5c2354483eb655e47d0847bbe158a00b79e0488207aa63ddd") false
    over (fun _ h => by cases h) (by kernel_rfl) (fun _ h => by cases h) fnStepJoints_row_tie rfl ⟨rfl, rfl⟩ (by kernel_rfl) rfl
    (fun f fn hf hfn => by
      obtain rfl : f = 8 := Option.some.inj ((show Tryd.prog.funcNamed "loop.example/robotcell/laws.FnStepJoints" = some 8 by kernel_rfl).symm.trans hf) |>.symm
      obtain rfl : fn = Tryd.f8 := (Option.some.inj (Tryd.func8.symm.trans hfn)).symm
      exact ⟨by kernel_rfl, fun j t ht => by
        rw [Tryd.params8] at ht
        have hm : t ∈ [36] := by simpa using Array.mem_of_getElem? ht
        have hall : ([36].all fun u => !Tryd.prog.wantsStandIn u) = true := by kernel_rfl
        exact (show Tryd.prog.wantsStandIn t = false by simpa using List.all_eq_true.1 hall t hm)⟩)
    (by kernel_rfl)
#print axioms proved
end Go.Proofs.YtegmhflbndnadaaDoor.fnStepJoints
