/- Proves the tied card of the law FnFollowPoint: it returns true for every input, the tables of the sine being as laid by the program text. -/
import Derived.Test.YtmainffjekjlnaaDoorCards
import Derived.Test.YtmainffjekjlnaaDoorTie
import Derived.Test.YtmainffjekjlnaaDoorLaid
import Derived.Test.YtmainffjekjlnaaDoorFollow
import Derived.Test.YtmainffjekjlnaaDoorDrawFollow
import Derived.Test.YtmainffjekjlnaaDoorAlive
import Derived.ChangeOld
import Derived.ShutString
import Derived.Lib.SmallJoins
import Derived.LaidMore
import Derived.Stop.Joined
import Derived.SevenTiedAt
import Derived.Deep.RegionHeld3
import Derived.Deep.DeepCutAuto
import Derived.Deep.CutBlock
namespace Go.Proofs.YtmainffjekjlnaaDoor.fnFollowPoint
open Go.ChangeShapes Go.WideShapes Go.ChangeAt Go.RowKit
set_option linter.unusedVariables false
theorem M.sq_tip {l lo hi j : List Int} (X Y : Int) (h : M.jointsB l lo hi j = true) : M.sq (M.tipX l lo hi j) (M.tipY l lo hi j) X Y = M.score l j X Y := by
  unfold M.score
  rw [(M.tip_yes h).1, (M.tip_yes h).2]
theorem half_bd {n : Int} (h : 0 ≤ n) : 0 ≤ n.tdiv 2 ∧ n.tdiv 2 ≤ n := by
  rw [Int.tdiv_eq_ediv_of_nonneg h]; omega
/-- what the law says of following -/
theorem M.fol_law {l lo hi j : List Int} {X Y n : Int} (h : ¬ (M.fol l lo hi j X Y n).length = 0) : (M.jointsB l lo hi j = true ∧ M.pvB X Y = true ∧ (0 ≤ n ∧ n ≤ 500)) ∧ ((M.fol l lo hi j X Y n).length = j.length ∧ M.jointsB l lo hi (M.fol l lo hi j X Y n) = true ∧ M.score l (M.fol l lo hi j X Y n) X Y ≤ M.score l j X Y) ∧ ∀ H, 0 ≤ H → H ≤ n → (M.fol l lo hi j X Y H).length = j.length ∧ M.fol l lo hi (M.fol l lo hi j X Y H) X Y (n - H) = M.fol l lo hi j X Y n := by
  by_cases hk : M.jointsB l lo hi j = true ∧ M.pvB X Y = true ∧ (0 ≤ n ∧ n ≤ 500)
  · refine ⟨hk, ?_, fun H h0 h1 => ?_⟩
    · rw [← M.fol_yes hk.1 hk.2.1 hk.2.2]
      exact M.fol_good hk.1 _
    · have hg := M.fol_good (X := X) (Y := Y) hk.1 H.toNat
      rw [← M.fol_yes (n := H) hk.1 hk.2.1 (by omega), ← M.fol_yes (n := n) hk.1 hk.2.1 hk.2.2, ← M.fol_yes (n := n - H) hg.2.1 hk.2.1 (by omega)]
      refine ⟨hg.1, ?_⟩
      rw [M.fol_add, show H.toNat + (n - H).toNat = n.toNat by omega]
  · exfalso; apply h; unfold M.fol; rw [if_neg hk]; rfl
set_option maxRecDepth 20000 in
set_option maxHeartbeats 8000000 in
theorem walk (a0 : Option Addr) (len0 cap0 : Nat) (z0 : List Int) (w : World) (w0 : IsRow .u8 w a0 len0 cap0 z0) (hT : Tables w) :
    Calls Tryd.prog 7 #[.slice a0 len0 cap0] w fun e w' => e = .returned (.bool true) ∧ Below w.heap.size w w' := by
  replace hT := Lib.hid hT
  by_cases hlen : (1048576 : Int) < len0
  · go_enter Tryd.func7, Tryd.ntmps7
    go_wp2
    go_ret
    exact ⟨rfl, Below.refl _ _⟩
  · go_enter Tryd.func7, Tryd.ntmps7
    go_wp2_with fail
    refine (draw_FollowPoint a0 len0 cap0 z0 _ w0).mono ?_
    rintro e w1 ⟨a1, n1, c1, a2, n2, c2, a3, n3, c3, l, lo, hi, aj, nj, cj, J, X, Y, N, rfl, hf, hjf, q⟩
    have bb := Lib.hid q
    clear w0 hlen q
    replace hT := Lib.hid (hT.out.later bb.out)
    obtain ⟨h1, h2, h3⟩ := hf.len
    obtain ⟨m1, m2, m3⟩ := hf.le
    obtain ⟨cp1, cp3⟩ := hf.cap
    have hr := Lib.hid hf.row
    have hr1 := hr
    have bc := Lib.hid (Below.refl w1.heap.size w1)
    have hq1 := bb
    have hj4 := hjf.len
    have hj6 := hjf.le
    have hj := Lib.hid hjf.s.row
    clear hjf
    replace hj4 := Lib.hid hj4
    replace h1 := Lib.hid h1
    replace h2 := Lib.hid h2
    replace h3 := Lib.hid h3
    clear hf
    have hnb : (M.fol l lo hi J X Y N).length ≤ 1000000 := (by have := M.fol_len l lo hi J X Y N; rw [hj4.out] at this; omega)
    obtain ⟨nL, hn⟩ : ∃ n, (M.fol l lo hi J X Y N).length = n := ⟨_, rfl⟩
    rw [hn] at hnb
    generalize hL : M.fol l lo hi J X Y N = L at *
    replace hL := Lib.hid hL
    replace hn := Lib.hid hn
    go_wp2_with fail
    have k0 := (Cell3.new w1 (.slice a1 n1 c1) (.slice a2 n2 c2) (.slice a3 n3 c3) 25).alloc (.cells #[.int .i64 X, .int .i64 Y] 27)
    have kp := Slot.new (w1.alloc (.cells #[.slice a1 n1 c1, .slice a2 n2 c2, .slice a3 n3 c3] 25)) X Y 27
    rw [World.size_alloc] at kp
    replace bb := Lib.hid (bel_after bb.out (bel_new w1 (.cells #[.slice a1 n1 c1, .slice a2 n2 c2, .slice a3 n3 c3] 25)))
    replace hT := Lib.hid (hT.out.later (bel_new w1 (.cells #[.slice a1 n1 c1, .slice a2 n2 c2, .slice a3 n3 c3] 25)))
    replace hr := Lib.hid (hr.out.after (bel_new w1 (.cells #[.slice a1 n1 c1, .slice a2 n2 c2, .slice a3 n3 c3] 25)))
    replace bc := Lib.hid (bel_after bc.out (bel_new w1 (.cells #[.slice a1 n1 c1, .slice a2 n2 c2, .slice a3 n3 c3] 25)))
    replace hj := Lib.hid (hj.out.after (bel_new w1 (.cells #[.slice a1 n1 c1, .slice a2 n2 c2, .slice a3 n3 c3] 25)))
    replace bb := Lib.hid (bel_after bb.out (bel_new (w1.alloc (.cells #[.slice a1 n1 c1, .slice a2 n2 c2, .slice a3 n3 c3] 25)) (.cells #[.int .i64 X, .int .i64 Y] 27)))
    replace hT := Lib.hid (hT.out.later (bel_new (w1.alloc (.cells #[.slice a1 n1 c1, .slice a2 n2 c2, .slice a3 n3 c3] 25)) (.cells #[.int .i64 X, .int .i64 Y] 27)))
    replace hr := Lib.hid (hr.out.after (bel_new (w1.alloc (.cells #[.slice a1 n1 c1, .slice a2 n2 c2, .slice a3 n3 c3] 25)) (.cells #[.int .i64 X, .int .i64 Y] 27)))
    replace bc := Lib.hid (bel_after bc.out (bel_new (w1.alloc (.cells #[.slice a1 n1 c1, .slice a2 n2 c2, .slice a3 n3 c3] 25)) (.cells #[.int .i64 X, .int .i64 Y] 27)))
    replace hj := Lib.hid (hj.out.after (bel_new (w1.alloc (.cells #[.slice a1 n1 c1, .slice a2 n2 c2, .slice a3 n3 c3] 25)) (.cells #[.int .i64 X, .int .i64 Y] 27)))
    generalize hK : w1.heap.size = K at k0 kp ⊢
    have hKw : w1.heap.size ≤ K := Nat.le_of_eq hK
    clear hK
    generalize (w1.alloc (.cells #[.slice a1 n1 c1, .slice a2 n2 c2, .slice a3 n3 c3] 25)).alloc (.cells #[.int .i64 X, .int .i64 Y] 27) = v at *
    obtain ⟨w2, rfl⟩ : ∃ u : World, u = v := ⟨_, rfl⟩
    refine (impl_follow a1 a2 a3 aj n1 c1 n2 c2 n3 c3 nj cj l lo hi J X Y N _ hT.out h1.out h2.out h3.out hj4.out (by omega) (by omega) hr.out hj.out).mono ?_
    rintro e w3 hq
    rw [hL.out] at hq
    obtain ⟨xg, yg, rfl, mg, q⟩ := ints_view hn.out hq
    replace bb := Lib.hid (bel_after bb.out q)
    replace hT := Lib.hid (hT.out.later q)
    replace hr := Lib.hid (hr.out.after q)
    replace bc := Lib.hid (bel_after bc.out q)
    replace hj := Lib.hid (hj.out.after q)
    replace k0 := k0.after q
    replace kp := kp.after q
    clear q hq
    replace mg := Lib.hid mg
    obtain ⟨k0x, k0y, k0z, k0u, k0v, k0w⟩ := id k0
    obtain ⟨kpx, kpy, kpz, kpu, kpv⟩ := id kp
    go_wp2_with fail
    clear k0x k0y k0z k0u k0v k0w kpx kpy kpz kpu kpv
    refine (spec_follow a1 a2 a3 aj n1 c1 n2 c2 n3 c3 nj cj l lo hi J X Y N _ h1.out h2.out h3.out hj4.out (by omega) (by omega) hr.out hj.out).mono ?_
    rintro e w4 hq
    rw [hL.out] at hq
    obtain ⟨xw, yw, rfl, mw, q⟩ := ints_view hn.out hq
    replace bb := Lib.hid (bel_after bb.out q)
    replace hT := Lib.hid (hT.out.later q)
    replace hr := Lib.hid (hr.out.after q)
    replace bc := Lib.hid (bel_after bc.out q)
    replace hj := Lib.hid (hj.out.after q)
    replace k0 := k0.after q
    replace kp := kp.after q
    replace mg := Lib.hid (mg.out.after q)
    clear q hq
    replace mw := Lib.hid mw
    obtain ⟨k0x, k0y, k0z, k0u, k0v, k0w⟩ := id k0
    obtain ⟨kpx, kpy, kpz, kpu, kpv⟩ := id kp
    go_wp2_with fail
    clear k0x k0y k0z k0u k0v k0w kpx kpy kpz kpu kpv
    refine (same_ints_yes xg xw nL yg yw L _ hn.out (by omega) mg.out.row mw.out.row).mono ?_
    rintro e w5 ⟨rfl, q⟩
    have z5 := q.size
    replace bb := Lib.hid (bel_after bb.out q)
    replace hT := Lib.hid (hT.out.later q)
    replace hr := Lib.hid (hr.out.after q)
    replace bc := Lib.hid (bel_after bc.out q)
    replace hj := Lib.hid (hj.out.after q)
    replace k0 := k0.after q
    replace kp := kp.after q
    replace mg := Lib.hid (mg.out.after q)
    replace mw := Lib.hid (mw.out.after q)
    clear q
    clear mw
    by_cases hz : nL = 0
    · have hz2 : ((nL : Int) == 0) = true := by simp [hz]
      replace hz := Lib.hid hz
      obtain ⟨x0, x1, x2, x3, x4, x5⟩ := id k0
      obtain ⟨t0, t1, t2, t3, t4⟩ := id kp
      go_wp2_with (go_at_call 13; refine (alive _).mono ?_; rintro e w' ⟨rfl, rfl⟩)
      go_ret
      exact ⟨rfl, bb.out⟩
    have hz2 : ((nL : Int) == 0) = false := by simp; exact hz
    obtain ⟨⟨hA, hP, hN1, hN2⟩, ⟨g1_, hgL, hle⟩, hadd⟩ := M.fol_law (l := l) (lo := lo) (hi := hi) (j := J) (X := X) (Y := Y) (n := N) (by rw [hL.out, hn.out]; exact hz)
    rw [hL.out] at g1_ hgL hle
    obtain rfl : nL = nj := by rw [← hn.out, g1_, hj4.out]
    clear g1_ hz
    obtain ⟨e0, e1⟩ := half_bd hN1
    obtain ⟨H, eH⟩ : ∃ H, N.tdiv 2 = H := ⟨_, rfl⟩
    rw [eH] at e0 e1
    obtain ⟨hG2, hadd2⟩ := hadd H e0 e1
    clear hadd
    rw [hL.out] at hadd2
    rw [hj4.out] at hG2
    obtain ⟨G, hG⟩ : ∃ G, M.fol l lo hi J X Y H = G := ⟨_, rfl⟩
    rw [hG] at hG2 hadd2
    have ewH : IntKind.i64.wrap H = H := IntWalk.i64_in _ (by omega)
    have ewS : IntKind.i64.wrap (N - H) = N - H := IntWalk.i64_in _ (by omega)
    have hsL := Lib.hid (M.sq_tip X Y hgL)
    have hsJ := Lib.hid (M.sq_tip X Y hA)
    replace hG := Lib.hid hG
    replace hG2 := Lib.hid hG2
    replace hadd2 := Lib.hid hadd2
    replace hgL := Lib.hid hgL
    replace hA := Lib.hid hA
    replace hP := Lib.hid hP
    generalize hSL : M.score l L X Y = SL at *
    generalize hSJ : M.score l J X Y = SJ at *
    clear hSL hSJ
    have hle2 : decide (SL ≤ SJ) = true := by simp; omega
    obtain ⟨k0x, k0y, k0z, k0u, k0v, k0w⟩ := id k0
    obtain ⟨kpx, kpy, kpz, kpu, kpv⟩ := id kp
    go_wp2_with fail
    clear k0x k0y k0z k0u k0v k0w kpx kpy kpz kpu kpv
    replace bb := Lib.hid (bel_after bb.out (bel_drew _))
    replace hT := Lib.hid (hT.out.later (bel_drew _))
    replace hr := Lib.hid (hr.out.after (bel_drew _))
    replace bc := Lib.hid (bel_after bc.out (bel_drew _))
    replace hj := Lib.hid (hj.out.after (bel_drew _))
    replace k0 := k0.after (bel_drew _)
    replace kp := kp.after (bel_drew _)
    replace mg := Lib.hid (mg.out.after (bel_drew _))
    have s := And.intro (And.intro k0.c0 (And.intro k0.c1 k0.c2)) (And.intro kp.1 kp.2.1)
    have tf0 := True.intro
    go_region_held3 (fun w' => (w'.cell? ⟨K, 0, none⟩ = some (.slice a1 n1 c1) ∧ w'.cell? ⟨K, 1, none⟩ = some (.slice a2 n2 c2) ∧ w'.cell? ⟨K, 2, none⟩ = some (.slice a3 n3 c3)) ∧ (w'.cell? ⟨K + 1, 0, none⟩ = some (.int .i64 X) ∧ w'.cell? ⟨K + 1, 1, none⟩ = some (.int .i64 Y))) (first | (with_reducible assumption) | go_keep) (first | (clear tf0; go_at_call 29; refine (impl_follow a1 a2 a3 aj n1 c1 n2 c2 n3 c3 nL cj l lo hi J X Y H _ hT.out h1.out h2.out h3.out hj4.out (by omega) (by omega) hr.out hj.out).mono ?_; rintro e wf1 hq; rw [hG.out] at hq; obtain ⟨xh, yh, rfl, mh, q⟩ := ints_view hG2.out hq; replace bb := Lib.hid (bel_after bb.out q); replace hT := Lib.hid (hT.out.later q); replace hr := Lib.hid (hr.out.after q); replace bc := Lib.hid (bel_after bc.out q); replace hj := Lib.hid (hj.out.after q); replace k0 := k0.after q; replace kp := kp.after q; replace mg := Lib.hid (mg.out.after q); replace mh := Lib.hid mh; clear q hq s; have s := And.intro (And.intro k0.c0 (And.intro k0.c1 k0.c2)) (And.intro kp.1 kp.2.1)) | (go_at_call 29; refine (impl_follow a1 a2 a3 xh n1 c1 n2 c2 n3 c3 nL yh l lo hi G X Y (N - H) _ hT.out h1.out h2.out h3.out hG2.out (by omega) (by omega) hr.out mh.out.row).mono ?_; rintro e wf2 hq; rw [hadd2.out] at hq; obtain ⟨xy, yy, rfl, my, q⟩ := ints_view hn.out hq; clear mh; replace bb := Lib.hid (bel_after bb.out q); replace hT := Lib.hid (hT.out.later q); replace hr := Lib.hid (hr.out.after q); replace bc := Lib.hid (bel_after bc.out q); replace hj := Lib.hid (hj.out.after q); replace k0 := k0.after q; replace kp := kp.after q; replace mg := Lib.hid (mg.out.after q); replace my := Lib.hid my; clear q hq s; have s := And.intro (And.intro k0.c0 (And.intro k0.c1 k0.c2)) (And.intro kp.1 kp.2.1)))
    all_goals
      clear s
      obtain ⟨w6, rfl⟩ : ∃ u : World, u = wf2 := ⟨_, rfl⟩
      obtain ⟨k0x, k0y, k0z, k0u, k0v, k0w⟩ := id k0
      obtain ⟨kpx, kpy, kpz, kpu, kpv⟩ := id kp
      go_wp2_with fail
      clear k0x k0y k0z k0u k0v k0w kpx kpy kpz kpu kpv
      replace bb := Lib.hid (bel_after bb.out (bel_drew _))
      replace hT := Lib.hid (hT.out.later (bel_drew _))
      replace hr := Lib.hid (hr.out.after (bel_drew _))
      replace bc := Lib.hid (bel_after bc.out (bel_drew _))
      replace hj := Lib.hid (hj.out.after (bel_drew _))
      replace k0 := k0.after (bel_drew _)
      replace kp := kp.after (bel_drew _)
      replace mg := Lib.hid (mg.out.after (bel_drew _))
      replace my := Lib.hid (my.out.after (bel_drew _))
      have s := And.intro (And.intro k0.c0 (And.intro k0.c1 k0.c2)) (And.intro kp.1 kp.2.1)
      have tk0 := True.intro
      have tq0 := True.intro
      go_region_held3 (fun w' => (w'.cell? ⟨K, 0, none⟩ = some (.slice a1 n1 c1) ∧ w'.cell? ⟨K, 1, none⟩ = some (.slice a2 n2 c2) ∧ w'.cell? ⟨K, 2, none⟩ = some (.slice a3 n3 c3)) ∧ (w'.cell? ⟨K + 1, 0, none⟩ = some (.int .i64 X) ∧ w'.cell? ⟨K + 1, 1, none⟩ = some (.int .i64 Y))) (first | (with_reducible assumption) | go_keep) (first | (go_at_call 11; refine (same_ints_yes xg xy nL yg yy L _ hn.out (by omega) mg.out.row my.out.row).mono ?_; rintro e ws ⟨rfl, q⟩; replace bb := Lib.hid (bel_after bb.out q); replace hT := Lib.hid (hT.out.later q); replace hr := Lib.hid (hr.out.after q); replace bc := Lib.hid (bel_after bc.out q); replace hj := Lib.hid (hj.out.after q); replace k0 := k0.after q; replace kp := kp.after q; replace mg := Lib.hid (mg.out.after q); replace my := Lib.hid (my.out.after q); clear q s; have s := And.intro (And.intro k0.c0 (And.intro k0.c1 k0.c2)) (And.intro kp.1 kp.2.1)) | (go_at_call 26; refine (impl_joints a1 a2 a3 _ n1 c1 n2 c2 n3 c3 nL yg l lo hi L _ h1.out h2.out h3.out hn.out (by omega) (by omega) hr.out mg.out.row).mono ?_; rintro e wj ⟨rfl, q⟩; rw [hgL.out]; replace bb := Lib.hid (bel_after bb.out q); replace hT := Lib.hid (hT.out.later q); replace hr := Lib.hid (hr.out.after q); replace bc := Lib.hid (bel_after bc.out q); replace hj := Lib.hid (hj.out.after q); replace k0 := k0.after q; replace kp := kp.after q; replace mg := Lib.hid (mg.out.after q); replace my := Lib.hid (my.out.after q); clear q s; have s := And.intro (And.intro k0.c0 (And.intro k0.c1 k0.c2)) (And.intro kp.1 kp.2.1)) | (clear tk0; go_at_call 17; refine (impl_tipOf a1 a2 a3 _ n1 c1 n2 c2 n3 c3 nL yg l lo hi L _ hT.out h1.out h2.out h3.out hn.out (by omega) (by omega) hr.out mg.out.row).mono ?_; rintro e wt0 ⟨rfl, q⟩; replace bb := Lib.hid (bel_after bb.out q); replace hT := Lib.hid (hT.out.later q); replace hr := Lib.hid (hr.out.after q); replace bc := Lib.hid (bel_after bc.out q); replace hj := Lib.hid (hj.out.after q); replace k0 := k0.after q; replace kp := kp.after q; replace mg := Lib.hid (mg.out.after q); replace my := Lib.hid (my.out.after q); clear q s; have s := And.intro (And.intro k0.c0 (And.intro k0.c1 k0.c2)) (And.intro kp.1 kp.2.1)) | (clear tq0; go_at_call 16; refine (impl_sq _ _ X Y _).mono ?_; rintro e wq0 ⟨rfl, q⟩; rw [hsL.out]; replace bb := Lib.hid (bel_after bb.out q); replace hT := Lib.hid (hT.out.later q); replace hr := Lib.hid (hr.out.after q); replace bc := Lib.hid (bel_after bc.out q); replace hj := Lib.hid (hj.out.after q); replace k0 := k0.after q; replace kp := kp.after q; replace mg := Lib.hid (mg.out.after q); replace my := Lib.hid (my.out.after q); clear q s; have s := And.intro (And.intro k0.c0 (And.intro k0.c1 k0.c2)) (And.intro kp.1 kp.2.1)) | (go_at_call 17; refine (impl_tipOf a1 a2 a3 _ n1 c1 n2 c2 n3 c3 nL cj l lo hi J _ hT.out h1.out h2.out h3.out hj4.out (by omega) (by omega) hr.out hj.out).mono ?_; rintro e wt1 ⟨rfl, q⟩; replace bb := Lib.hid (bel_after bb.out q); replace hT := Lib.hid (hT.out.later q); replace hr := Lib.hid (hr.out.after q); replace bc := Lib.hid (bel_after bc.out q); replace hj := Lib.hid (hj.out.after q); replace k0 := k0.after q; replace kp := kp.after q; replace mg := Lib.hid (mg.out.after q); replace my := Lib.hid (my.out.after q); clear q s; have s := And.intro (And.intro k0.c0 (And.intro k0.c1 k0.c2)) (And.intro kp.1 kp.2.1)) | (go_at_call 16; refine (impl_sq _ _ X Y _).mono ?_; rintro e wq1 ⟨rfl, q⟩; rw [hsJ.out]; replace bb := Lib.hid (bel_after bb.out q); replace hT := Lib.hid (hT.out.later q); replace hr := Lib.hid (hr.out.after q); replace bc := Lib.hid (bel_after bc.out q); replace hj := Lib.hid (hj.out.after q); replace k0 := k0.after q; replace kp := kp.after q; replace mg := Lib.hid (mg.out.after q); replace my := Lib.hid (my.out.after q); clear q s; have s := And.intro (And.intro k0.c0 (And.intro k0.c1 k0.c2)) (And.intro kp.1 kp.2.1)))
      all_goals
        go_wp2_with fail
        go_ret
        exact ⟨rfl, bb.out⟩
theorem own : ownKnob Tryd.prog.godebug = none := by kernel_rfl
theorem laidOut : laidOutB Tryd.prog = true := by kernel_rfl
set_option maxRecDepth 100000 in
theorem lifted (os : Os) (started : os.Started) (H : Type) (enc : TypeId × Value → H) :
    ReturnsInHanded {} Tryd.checked os 7 .any (fun w args => (Rows.fnFollowPointSpec.pre enc Tryd.prog Tryd.f7 [] false w args ∧ laidMetH Tryd.prog laid3 w) ∧ sizedMet enc Tryd.prog Tryd.f7 (OpenSpec.ofChange Rows.fnFollowPointSpec) false w args)
      (Rows.fnFollowPointSpec.post enc Tryd.prog Tryd.f7 false true false false) := by
  refine returnsInHanded_of_change_and (C := Tryd.checked) (X := fun w _ => laidMetH Tryd.prog laid3 w) (fun _ _ _ hh h => h.of_heap hh) own started (by kernel_rfl) Tryd.func7
    (ChangeSpec.witness_shaped (enc := enc) (C := Tryd.checked) (os := os) (X := fun w _ => laidMetH Tryd.prog laid3 w) false (World.doorLaid Tryd.prog 24 os) #[.slice none 0 0] 8 rfl (World.shaped_of_RefB (by kernel_rfl) (by kernel_rfl)) (by kernel_rfl) (by kernel_rfl) (by kernel_rfl) (door_met os _)) ?_
  intro W base args ds gs before hval0 hW _ _ hL _
  have hval : ∀ (j : Nat) t v, Tryd.f7.params[j]? = some t → args[j]? = some v → Value.okWide Tryd.prog W .any base t v := hval0
  have hW' := hW
  obtain ⟨p, q, hA0, hV, rfl, hfz, hnd⟩ := hW
  have hA : DataW.TrodAll enc Tryd.prog W 0 (fun _ => true) true Tryd.f7.params.toList args.toList ds p := hA0
  rw [Tryd.params7] at hA hval
  obtain ⟨v0_, vs0, d0, ds0, p0, q0, hargs, rfl, rfl, h0, r0⟩ := trodAll_cons hA
  obtain ⟨rfl, rfl, rfl⟩ := trodAll_nil r0
  obtain rfl : args = #[v0_] := by cases args; simp_all
  obtain ⟨rfl, rfl⟩ := trodVars_none hV
  obtain ⟨a0, len0, cap0, rfl⟩ := okWide_slice Tryd.underlying22 (hval 0 22 v0_ rfl rfl)
  have k0 := h0
  have lt0 : ∀ x ∈ p0, x.block < W.heap.size := by obtain ⟨m, hm⟩ := k0; exact DataW.trod_lt m _ _ _ hm
  obtain ⟨z0, w0⟩ : ∃ zs, IsRow .u8 W a0 len0 cap0 zs := by
    obtain ⟨fuel, hf⟩ := h0
    rcases open_ints Tryd.underlying22 Tryd.underlying5 (by kernel_rfl) hf with ⟨hcs, _⟩ | ⟨x, l, c, zs, hcs, _, hl, hm, hz, _, hcell, hwz⟩
    · simp [Value.cells] at hcs
      obtain ⟨rfl, rfl, rfl⟩ := hcs
      exact ⟨[], .inl ⟨rfl, rfl, rfl, rfl⟩⟩
    · simp [Value.cells] at hcs
      obtain ⟨rfl, rfl, rfl⟩ := hcs
      exact ⟨zs, .inr ⟨_, rfl, hl, hm, by simpa using hz, hcell, hwz⟩⟩
  clear hA0 hval0
  refine (walk a0 len0 cap0 z0 W w0 (of_laid hL)).mono fun e W' ⟨he, bel⟩ => ?_
  subst he
  exact ⟨_, rfl, _, _, _, [], _, [], hW', trodAll_mk1 (shut_bool Tryd.underlying4 _), (trodAll_cons_mk (Below.trod laidOut (by kernel_rfl) (of_decide_eq_true (by kernel_rfl)) k0 bel lt0) trodAll_mk0), rfl, bel.frame _, fun h => by cases h⟩
theorem over : Rows.FnFollowPointSaid :=
  OpenClaim.holds_of_wide 7 Tryd.f7 rfl rfl rfl rfl rfl rfl rfl ⟨rfl, rfl, rfl, rfl, rfl⟩ rfl rfl rfl rfl rfl (by kernel_rfl) Tryd.func7 (by kernel_rfl)
    (of_decide_eq_true (by kernel_rfl)) (by unfold Func.isWrapper; first | (rw [if_pos (by decide +kernel)]; kernel_rfl) | (rw [if_neg (by decide +kernel)]; exact ⟨rfl, rfl⟩))
    (fun os started H enc _ => lifted os started H enc)
theorem proved : Rows.FnFollowPointCardSaid :=
  Claim7.holds_tied_plain_at .later [] [.data, .data, .data] true (true, "93a7d8943fba560fcf8c7ca76f507c19b15707da8092a46e0532a4902c1ccc6d") false
    over (fun _ h => by cases h) (by kernel_rfl) (fun _ h => by cases h) fnFollowPoint_row_tie rfl ⟨rfl, rfl⟩ (by kernel_rfl) rfl
    (fun f fn hf hfn => by
      obtain rfl : f = 7 := Option.some.inj ((show Tryd.prog.funcNamed "loop.example/robotcell/laws.FnFollowPoint" = some 7 by kernel_rfl).symm.trans hf) |>.symm
      obtain rfl : fn = Tryd.f7 := (Option.some.inj (Tryd.func7.symm.trans hfn)).symm
      exact ⟨by kernel_rfl, fun j t ht => by
        rw [Tryd.params7] at ht
        have hm : t ∈ [22] := by simpa using Array.mem_of_getElem? ht
        have hall : ([22].all fun u => !Tryd.prog.wantsStandIn u) = true := by kernel_rfl
        exact (show Tryd.prog.wantsStandIn t = false by simpa using List.all_eq_true.1 hall t hm)⟩)
    (by kernel_rfl)
#print axioms proved
end Go.Proofs.YtmainffjekjlnaaDoor.fnFollowPoint
