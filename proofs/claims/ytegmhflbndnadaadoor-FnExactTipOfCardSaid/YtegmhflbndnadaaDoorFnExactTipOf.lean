/- Proves the tied card of the law FnExactTipOf: it returns true for every input, the tables of the sine being as laid by the program text. -/
import Derived.Test.YtegmhflbndnadaaDoorCards
import Derived.Test.YtegmhflbndnadaaDoorTie
import Derived.Test.YtegmhflbndnadaaDoorLaid
import Derived.Test.YtegmhflbndnadaaDoorTips
import Derived.Test.YtegmhflbndnadaaDoorArmEq
import Derived.ChangeOld
import Derived.ShutString
import Derived.Lib.SmallJoins
import Derived.LaidMore
import Derived.Stop.Joined
import Derived.SevenTiedAt
import Derived.Deep.RegionHeld3
import Derived.Deep.DeepCutAuto
import Derived.Deep.CutBlock
namespace Go.Proofs.YtegmhflbndnadaaDoor.fnExactTipOf
open Go.ChangeShapes Go.WideShapes Go.ChangeAt Go.RowKit
set_option linter.unusedVariables false
set_option maxRecDepth 20000 in
set_option maxHeartbeats 4000000 in
theorem walk (p0 q0 r0 : Option Addr) (lp0 cp0 lq0 cq0 lr0 cr0 : Nat) (zp0 zq0 zr0 : List Int) (a1 : Option Addr) (len1 cap1 : Nat) (z1 : List Int) (w : World) (wp0 : IsRow .i64 w p0 lp0 cp0 zp0) (wq0 : IsRow .i64 w q0 lq0 cq0 zq0) (wt0 : IsRow .i64 w r0 lr0 cr0 zr0) (w1 : IsRow .i64 w a1 len1 cap1 z1) (hT : Tables w) :
    Calls Tryd.prog 3 #[.agg #[.slice p0 lp0 cp0, .slice q0 lq0 cq0, .slice r0 lr0 cr0], .slice a1 len1 cap1] w fun e w' => e = .returned (.bool true) ∧ Below w.heap.size w w' := by
  replace hT := Lib.hid hT
  have hTw := hT
  obtain ⟨l, lo, hi, ⟨h1, h2, h3⟩, hr⟩ := ArmAt.of_rows wp0 wq0 wt0
  have g1 := wp0.size
  have g2 := wq0.size
  have g3 := wt0.size
  replace hr := Lib.hid (show ArmAt w w.heap.size p0 q0 r0 l lo hi from hr)
  clear wp0 wq0 wt0
  have hrw := hr
  replace h1 := Lib.hid h1
  replace h2 := Lib.hid h2
  replace h3 := Lib.hid h3
  have u1 := w1.size
  obtain ⟨hj1, hl1⟩ := Row.of_isRow w1
  obtain ⟨j1, ej1⟩ : ∃ j, j = z1.take len1 := ⟨_, rfl⟩
  rw [← ej1] at hj1 hl1
  clear w1 ej1
  replace hl1 := Lib.hid hl1
  replace hj1 := Lib.hid hj1
  have hjw1 := hj1
  have bb := Lib.hid (Below.refl w.heap.size w)
  have k0 := Cell3.new (w) (.slice p0 lp0 cp0) (.slice q0 lq0 cq0) (.slice r0 lr0 cr0) 24
  replace hT := Lib.hid (hT.out.later (bel_new (w) (.cells #[.slice p0 lp0 cp0, .slice q0 lq0 cq0, .slice r0 lr0 cr0] 24)))
  replace hr := Lib.hid (hr.out.after (bel_new (w) (.cells #[.slice p0 lp0 cp0, .slice q0 lq0 cq0, .slice r0 lr0 cr0] 24)))
  replace hj1 := Lib.hid (hj1.out.after (bel_new (w) (.cells #[.slice p0 lp0 cp0, .slice q0 lq0 cq0, .slice r0 lr0 cr0] 24)))
  replace bb := Lib.hid (bel_after bb.out (bel_new (w) (.cells #[.slice p0 lp0 cp0, .slice q0 lq0 cq0, .slice r0 lr0 cr0] 24)))
  have hv0 : True := trivial
  by_cases hs1 : (1048576 : Int) < len1
  · go_enter Tryd.func3, Tryd.ntmps3
    obtain ⟨k0x, k0y, k0z, k0u, k0v, k0w⟩ := id k0
    go_wp2_with fail
    clear k0x k0y k0z k0u k0v k0w
    go_ret
    exact ⟨rfl, bb.out⟩
  · have hs1n : len1 ≤ 1048576 := by omega
    by_cases hsz : lp0 + lq0 + lr0 ≤ 1048576
    · go_enter Tryd.func3, Tryd.ntmps3
      obtain ⟨k0x, k0y, k0z, k0u, k0v, k0w⟩ := id k0
      go_wp2_with fail
      clear k0x k0y k0z k0u k0v k0w
      refine (sz_arm_yes p0 q0 r0 lp0 cp0 lq0 cq0 lr0 cr0 _ hsz).mono ?_
      rintro e w1 ⟨rfl, q⟩
      have z1 := q.size
      replace hT := Lib.hid (hT.out.later q)
      replace hr := Lib.hid (hr.out.after q)
      replace hj1 := Lib.hid (hj1.out.after q)
      replace bb := Lib.hid (bel_after bb.out q)
      replace k0 := k0.after q
      clear q
      have hz : (0 : Int) ≤ 1048576 - lp0 - lq0 - lr0 := by omega
      obtain ⟨k0x, k0y, k0z, k0u, k0v, k0w⟩ := id k0
      go_wp2_with fail
      clear k0x k0y k0z k0u k0v k0w
      refine (to_arm p0 q0 r0 lp0 cp0 lq0 cq0 lr0 cr0 l lo hi _ h1.out h2.out h3.out (by omega) (by omega) (by omega) hr.out).mono ?_
      rintro e w2 ⟨xa1, ya1, xa2, ya2, xa3, ya3, rfl, ma, q⟩
      have z2 := q.size
      replace hT := Lib.hid (hT.out.later q)
      replace hr := Lib.hid (hr.out.after q)
      replace hj1 := Lib.hid (hj1.out.after q)
      replace bb := Lib.hid (bel_after bb.out q)
      replace k0 := k0.after q
      clear q
      replace ma := Lib.hid ma
      obtain ⟨k0x, k0y, k0z, k0u, k0v, k0w⟩ := id k0
      go_wp2_with fail
      clear k0x k0y k0z k0u k0v k0w
      refine (to_ints a1 len1 cap1 j1 _ hl1.out hs1n hj1.out).mono ?_
      rintro e w3 hq
      obtain ⟨xaj, yaj, rfl, maj, q⟩ := ints_view hl1.out hq
      have z3 := q.size
      replace hT := Lib.hid (hT.out.later q)
      replace hr := Lib.hid (hr.out.after q)
      replace hj1 := Lib.hid (hj1.out.after q)
      replace bb := Lib.hid (bel_after bb.out q)
      replace k0 := k0.after q
      replace ma := Lib.hid (ma.out.after q)
      clear q hq
      replace maj := Lib.hid maj
      obtain ⟨k0x, k0y, k0z, k0u, k0v, k0w⟩ := id k0
      go_wp2_with fail
      clear k0x k0y k0z k0u k0v k0w
      refine (spec_tipOf xa1 xa2 xa3 xaj lp0 ya1 lq0 ya2 lr0 ya3 len1 yaj l lo hi j1 _ h1.out h2.out h3.out hl1.out (by omega) (by omega) ma.out.row maj.out.row).mono ?_
      rintro e w4 ⟨rfl, q⟩
      have z4 := q.size
      replace hT := Lib.hid (hT.out.later q)
      replace hr := Lib.hid (hr.out.after q)
      replace hj1 := Lib.hid (hj1.out.after q)
      replace bb := Lib.hid (bel_after bb.out q)
      replace k0 := k0.after q
      replace ma := Lib.hid (ma.out.after q)
      replace maj := Lib.hid (maj.out.after q)
      clear q
      clear ma maj
      obtain ⟨k0x, k0y, k0z, k0u, k0v, k0w⟩ := id k0
      go_upto_region 8 with fail
      clear k0x k0y k0z k0u k0v k0w
      have kw := Box.new w4 (M.tipX l lo hi j1) (M.tipY l lo hi j1) 27
      replace hT := Lib.hid (hT.out.later (bel_new w4 (.cells #[.int .i64 (M.tipX l lo hi j1), .int .i64 (M.tipY l lo hi j1)] 27)))
      replace hr := Lib.hid (hr.out.after (bel_new w4 (.cells #[.int .i64 (M.tipX l lo hi j1), .int .i64 (M.tipY l lo hi j1)] 27)))
      replace hj1 := Lib.hid (hj1.out.after (bel_new w4 (.cells #[.int .i64 (M.tipX l lo hi j1), .int .i64 (M.tipY l lo hi j1)] 27)))
      replace bb := Lib.hid (bel_after bb.out (bel_new w4 (.cells #[.int .i64 (M.tipX l lo hi j1), .int .i64 (M.tipY l lo hi j1)] 27)))
      replace k0 := k0.after (bel_new w4 (.cells #[.int .i64 (M.tipX l lo hi j1), .int .i64 (M.tipY l lo hi j1)] 27))
      generalize w4.heap.size = Kkw at kw ⊢
      generalize w4.alloc (.cells #[.int .i64 (M.tipX l lo hi j1), .int .i64 (M.tipY l lo hi j1)] 27) = v at *
      obtain ⟨w5, rfl⟩ : ∃ u : World, u = v := ⟨_, rfl⟩
      obtain ⟨k0x, k0y, k0z, k0u, k0v, k0w⟩ := id k0
      go_wp2_with fail
      clear k0x k0y k0z k0u k0v k0w
      refine (to_arm p0 q0 r0 lp0 cp0 lq0 cq0 lr0 cr0 l lo hi _ h1.out h2.out h3.out (by omega) (by omega) (by omega) hr.out).mono ?_
      rintro e w6 ⟨xb1, yb1, xb2, yb2, xb3, yb3, rfl, mb, q⟩
      have z6 := q.size
      replace hT := Lib.hid (hT.out.later q)
      replace hr := Lib.hid (hr.out.after q)
      replace hj1 := Lib.hid (hj1.out.after q)
      replace bb := Lib.hid (bel_after bb.out q)
      replace k0 := k0.after q
      replace kw := kw.after q
      clear q
      replace mb := Lib.hid mb
      obtain ⟨k0x, k0y, k0z, k0u, k0v, k0w⟩ := id k0
      go_wp2_with fail
      clear k0x k0y k0z k0u k0v k0w
      have k1 := Cell3.new w6 (.slice xb1 lp0 yb1) (.slice xb2 lq0 yb2) (.slice xb3 lr0 yb3) 29
      have zv := (bel_new w6 (.cells #[.slice xb1 lp0 yb1, .slice xb2 lq0 yb2, .slice xb3 lr0 yb3] 29)).size
      replace hT := Lib.hid (hT.out.later (bel_new w6 (.cells #[.slice xb1 lp0 yb1, .slice xb2 lq0 yb2, .slice xb3 lr0 yb3] 29)))
      replace hr := Lib.hid (hr.out.after (bel_new w6 (.cells #[.slice xb1 lp0 yb1, .slice xb2 lq0 yb2, .slice xb3 lr0 yb3] 29)))
      replace hj1 := Lib.hid (hj1.out.after (bel_new w6 (.cells #[.slice xb1 lp0 yb1, .slice xb2 lq0 yb2, .slice xb3 lr0 yb3] 29)))
      replace bb := Lib.hid (bel_after bb.out (bel_new w6 (.cells #[.slice xb1 lp0 yb1, .slice xb2 lq0 yb2, .slice xb3 lr0 yb3] 29)))
      replace k0 := k0.after (bel_new w6 (.cells #[.slice xb1 lp0 yb1, .slice xb2 lq0 yb2, .slice xb3 lr0 yb3] 29))
      replace kw := kw.after (bel_new w6 (.cells #[.slice xb1 lp0 yb1, .slice xb2 lq0 yb2, .slice xb3 lr0 yb3] 29))
      replace mb := Lib.hid (mb.out.after (bel_new w6 (.cells #[.slice xb1 lp0 yb1, .slice xb2 lq0 yb2, .slice xb3 lr0 yb3] 29)))
      generalize hK : w6.heap.size = K1 at k1 ⊢
      clear hK
      generalize w6.alloc (.cells #[.slice xb1 lp0 yb1, .slice xb2 lq0 yb2, .slice xb3 lr0 yb3] 29) = v at *
      obtain ⟨w7, rfl⟩ : ∃ u : World, u = v := ⟨_, rfl⟩
      refine (to_ints a1 len1 cap1 j1 _ hl1.out hs1n hj1.out).mono ?_
      rintro e w8 hq
      obtain ⟨xbj, ybj, rfl, mbj, q⟩ := ints_view hl1.out hq
      have z8 := q.size
      replace hT := Lib.hid (hT.out.later q)
      replace hr := Lib.hid (hr.out.after q)
      replace hj1 := Lib.hid (hj1.out.after q)
      replace bb := Lib.hid (bel_after bb.out q)
      replace k0 := k0.after q
      replace kw := kw.after q
      replace mb := Lib.hid (mb.out.after q)
      replace k1 := k1.after q
      clear q hq
      replace mbj := Lib.hid mbj
      obtain ⟨k0x, k0y, k0z, k0u, k0v, k0w⟩ := id k0
      obtain ⟨k1x, k1y, k1z, k1u, k1v, k1w⟩ := id k1
      go_wp2_with fail
      clear k0x k0y k0z k0u k0v k0w k1x k1y k1z k1u k1v k1w
      refine (impl_tipOf xb1 xb2 xb3 xbj lp0 yb1 lq0 yb2 lr0 yb3 len1 ybj l lo hi j1 _ hT.out h1.out h2.out h3.out hl1.out (by omega) (by omega) mb.out.row mbj.out.row).mono ?_
      rintro e w9 ⟨rfl, q⟩
      have z9 := q.size
      replace hT := Lib.hid (hT.out.later q)
      replace hr := Lib.hid (hr.out.after q)
      replace hj1 := Lib.hid (hj1.out.after q)
      replace bb := Lib.hid (bel_after bb.out q)
      replace k0 := k0.after q
      replace kw := kw.after q
      replace mb := Lib.hid (mb.out.after q)
      replace k1 := k1.after q
      replace mbj := Lib.hid (mbj.out.after q)
      clear q
      go_upto_region 11 with fail
      have kg := Box.new w9 (M.tipX l lo hi j1) (M.tipY l lo hi j1) 27
      replace hT := Lib.hid (hT.out.later (bel_new w9 (.cells #[.int .i64 (M.tipX l lo hi j1), .int .i64 (M.tipY l lo hi j1)] 27)))
      replace hr := Lib.hid (hr.out.after (bel_new w9 (.cells #[.int .i64 (M.tipX l lo hi j1), .int .i64 (M.tipY l lo hi j1)] 27)))
      replace hj1 := Lib.hid (hj1.out.after (bel_new w9 (.cells #[.int .i64 (M.tipX l lo hi j1), .int .i64 (M.tipY l lo hi j1)] 27)))
      replace bb := Lib.hid (bel_after bb.out (bel_new w9 (.cells #[.int .i64 (M.tipX l lo hi j1), .int .i64 (M.tipY l lo hi j1)] 27)))
      replace k0 := k0.after (bel_new w9 (.cells #[.int .i64 (M.tipX l lo hi j1), .int .i64 (M.tipY l lo hi j1)] 27))
      replace kw := kw.after (bel_new w9 (.cells #[.int .i64 (M.tipX l lo hi j1), .int .i64 (M.tipY l lo hi j1)] 27))
      replace mb := Lib.hid (mb.out.after (bel_new w9 (.cells #[.int .i64 (M.tipX l lo hi j1), .int .i64 (M.tipY l lo hi j1)] 27)))
      replace k1 := k1.after (bel_new w9 (.cells #[.int .i64 (M.tipX l lo hi j1), .int .i64 (M.tipY l lo hi j1)] 27))
      replace mbj := Lib.hid (mbj.out.after (bel_new w9 (.cells #[.int .i64 (M.tipX l lo hi j1), .int .i64 (M.tipY l lo hi j1)] 27)))
      generalize w9.heap.size = Kkg at kg ⊢
      generalize w9.alloc (.cells #[.int .i64 (M.tipX l lo hi j1), .int .i64 (M.tipY l lo hi j1)] 27) = v at *
      obtain ⟨w10, rfl⟩ : ∃ u : World, u = v := ⟨_, rfl⟩
      obtain ⟨kwx, kwy, kwz⟩ := id kw
      obtain ⟨kgx, kgy, kgz⟩ := id kg
      go_wp2_with fail
      clear kwx kwy kwz kgx kgy kgz
      refine (eq_pt _ _ _).mono ?_
      rintro e w11 ⟨rfl, q⟩
      have z11 := q.size
      replace hT := Lib.hid (hT.out.later q)
      replace hr := Lib.hid (hr.out.after q)
      replace hj1 := Lib.hid (hj1.out.after q)
      replace bb := Lib.hid (bel_after bb.out q)
      replace k0 := k0.after q
      replace kw := kw.after q
      replace mb := Lib.hid (mb.out.after q)
      replace k1 := k1.after q
      replace mbj := Lib.hid (mbj.out.after q)
      replace kg := kg.after q
      clear q
      obtain ⟨k0x, k0y, k0z, k0u, k0v, k0w⟩ := id k0
      obtain ⟨k1x, k1y, k1z, k1u, k1v, k1w⟩ := id k1
      go_wp2_with fail
      clear k0x k0y k0z k0u k0v k0w k1x k1y k1z k1u k1v k1w
      have _tok := True.intro
      replace hT := Lib.hid (hT.out.later (bel_drew _))
      replace hr := Lib.hid (hr.out.after (bel_drew _))
      replace hj1 := Lib.hid (hj1.out.after (bel_drew _))
      replace bb := Lib.hid (bel_after bb.out (bel_drew _))
      replace k0 := k0.after (bel_drew _)
      replace kw := kw.after (bel_drew _)
      replace mb := Lib.hid (mb.out.after (bel_drew _))
      replace k1 := k1.after (bel_drew _)
      replace mbj := Lib.hid (mbj.out.after (bel_drew _))
      replace kg := kg.after (bel_drew _)
      have s := And.intro (And.intro k0.c0 (And.intro k0.c1 k0.c2)) (And.intro k1.c0 (And.intro k1.c1 k1.c2))
      go_region_held3 (fun w' => (w'.cell? ⟨w.heap.size, 0, none⟩ = some (.slice p0 lp0 cp0) ∧ w'.cell? ⟨w.heap.size, 1, none⟩ = some (.slice q0 lq0 cq0) ∧ w'.cell? ⟨w.heap.size, 2, none⟩ = some (.slice r0 lr0 cr0)) ∧ (w'.cell? ⟨K1, 0, none⟩ = some (.slice xb1 lp0 yb1) ∧ w'.cell? ⟨K1, 1, none⟩ = some (.slice xb2 lq0 yb2) ∧ w'.cell? ⟨K1, 2, none⟩ = some (.slice xb3 lr0 yb3))) (first | (with_reducible assumption) | go_keep) (first | (go_at_call 11; refine (to_arm p0 q0 r0 lp0 cp0 lq0 cq0 lr0 cr0 l lo hi _ h1.out h2.out h3.out (by omega) (by omega) (by omega) hr.out).mono ?_; rintro e wa ⟨xe1, ye1, xe2, ye2, xe3, ye3, rfl, me, q⟩; replace hT := Lib.hid (hT.out.later q); replace hr := Lib.hid (hr.out.after q); replace hj1 := Lib.hid (hj1.out.after q); replace bb := Lib.hid (bel_after bb.out q); replace k0 := k0.after q; replace kw := kw.after q; replace mb := Lib.hid (mb.out.after q); replace k1 := k1.after q; replace mbj := Lib.hid (mbj.out.after q); replace kg := kg.after q; replace me := Lib.hid me; clear q s; have s := And.intro (And.intro k0.c0 (And.intro k0.c1 k0.c2)) (And.intro k1.c0 (And.intro k1.c1 k1.c2))) | (go_at_call 15; refine (eq_arm_yes xb1 xb2 xb3 xe1 xe2 xe3 lp0 lq0 lr0 yb1 yb2 yb3 ye1 ye2 ye3 l lo hi _ h1.out h2.out h3.out (by omega) mb.out.row me.out.row).mono ?_; rintro e wb ⟨rfl, q⟩; replace hT := Lib.hid (hT.out.later q); replace hr := Lib.hid (hr.out.after q); replace hj1 := Lib.hid (hj1.out.after q); replace bb := Lib.hid (bel_after bb.out q); replace k0 := k0.after q; replace kw := kw.after q; replace mb := Lib.hid (mb.out.after q); replace k1 := k1.after q; replace mbj := Lib.hid (mbj.out.after q); replace kg := kg.after q; clear q s me; have s := And.intro (And.intro k0.c0 (And.intro k0.c1 k0.c2)) (And.intro k1.c0 (And.intro k1.c1 k1.c2))))
      clear s
      go_wp2_with fail
      refine (to_ints a1 len1 cap1 j1 _ hl1.out hs1n hj1.out).mono ?_
      rintro e w12 hq
      obtain ⟨xcj, ycj, rfl, mcj, q⟩ := ints_view hl1.out hq
      have z12 := q.size
      replace hT := Lib.hid (hT.out.later q)
      replace hr := Lib.hid (hr.out.after q)
      replace hj1 := Lib.hid (hj1.out.after q)
      replace bb := Lib.hid (bel_after bb.out q)
      replace k0 := k0.after q
      replace kw := kw.after q
      replace mb := Lib.hid (mb.out.after q)
      replace k1 := k1.after q
      replace mbj := Lib.hid (mbj.out.after q)
      replace kg := kg.after q
      clear q hq
      replace mcj := Lib.hid mcj
      go_wp2_with fail
      refine (eq_ints_yes xbj xcj len1 ybj ycj j1 _ hl1.out (by omega) mbj.out.row mcj.out.row).mono ?_
      rintro e w13 ⟨rfl, q⟩
      have z13 := q.size
      replace hT := Lib.hid (hT.out.later q)
      replace hr := Lib.hid (hr.out.after q)
      replace hj1 := Lib.hid (hj1.out.after q)
      replace bb := Lib.hid (bel_after bb.out q)
      replace k0 := k0.after q
      replace kw := kw.after q
      replace mb := Lib.hid (mb.out.after q)
      replace k1 := k1.after q
      replace mbj := Lib.hid (mbj.out.after q)
      replace kg := kg.after q
      replace mcj := Lib.hid (mcj.out.after q)
      clear q
      go_wp2_with fail
      go_ret
      exact ⟨rfl, bb.out⟩
    · go_enter Tryd.func3, Tryd.ntmps3
      obtain ⟨k0x, k0y, k0z, k0u, k0v, k0w⟩ := id k0
      go_wp2_with fail
      clear k0x k0y k0z k0u k0v k0w
      refine (sz_arm_no p0 q0 r0 lp0 cp0 lq0 cq0 lr0 cr0 _ g1 g2 g3 hsz).mono ?_
      rintro e w14 ⟨rfl, q⟩
      have z14 := q.size
      replace hT := Lib.hid (hT.out.later q)
      replace hr := Lib.hid (hr.out.after q)
      replace hj1 := Lib.hid (hj1.out.after q)
      replace bb := Lib.hid (bel_after bb.out q)
      replace k0 := k0.after q
      clear q
      obtain ⟨k0x, k0y, k0z, k0u, k0v, k0w⟩ := id k0
      go_wp2_with fail
      clear k0x k0y k0z k0u k0v k0w
      go_ret
      exact ⟨rfl, bb.out⟩
theorem own : ownKnob Tryd.prog.godebug = none := by kernel_rfl
theorem laidOut : laidOutB Tryd.prog = true := by kernel_rfl
theorem cellsArm : Tryd.prog.cellsOf 24 = 3 := by kernel_rfl
set_option maxRecDepth 100000 in
theorem lifted (os : Os) (started : os.Started) (H : Type) (enc : TypeId × Value → H) :
    ReturnsInHanded {} Tryd.checked os 3 .any (fun w args => (Rows.fnExactTipOfSpec.pre enc Tryd.prog Tryd.f3 [] false w args ∧ laidMetH Tryd.prog laid3 w) ∧ sizedMet enc Tryd.prog Tryd.f3 (OpenSpec.ofChange Rows.fnExactTipOfSpec) false w args)
      (Rows.fnExactTipOfSpec.post enc Tryd.prog Tryd.f3 false true false false) := by
  refine returnsInHanded_of_change_and (C := Tryd.checked) (X := fun w _ => laidMetH Tryd.prog laid3 w) (fun _ _ _ hh h => h.of_heap hh) own started (by kernel_rfl) Tryd.func3
    (ChangeSpec.witness_shaped (enc := enc) (C := Tryd.checked) (os := os) (X := fun w _ => laidMetH Tryd.prog laid3 w) false (World.doorLaid Tryd.prog 24 os) #[.agg #[.slice none 0 0, .slice none 0 0, .slice none 0 0], .slice none 0 0] 8 rfl (World.shaped_of_RefB (by kernel_rfl) (by kernel_rfl)) (by kernel_rfl) (by kernel_rfl) (by kernel_rfl) (door_met os _)) ?_
  intro W base args ds gs before hval0 hW _ _ hL _
  have hval : ∀ (j : Nat) t v, Tryd.f3.params[j]? = some t → args[j]? = some v → Value.okWide Tryd.prog W .any base t v := hval0
  have hW' := hW
  obtain ⟨p, q, hA0, hV, rfl, hfz, hnd⟩ := hW
  have hA : DataW.TrodAll enc Tryd.prog W 0 (fun _ => true) true Tryd.f3.params.toList args.toList ds p := hA0
  rw [Tryd.params3] at hA hval
  obtain ⟨v0_, vs0, d0, ds0, p0, q0, hargs, rfl, rfl, h0, r0⟩ := trodAll_cons hA
  obtain ⟨v1_, vs1, d1, ds1, p1, q1, rfl, rfl, rfl, h1, r1⟩ := trodAll_cons r0
  obtain ⟨rfl, rfl, rfl⟩ := trodAll_nil r1
  obtain rfl : args = #[v0_, v1_] := by cases args; simp_all
  obtain ⟨rfl, rfl⟩ := trodVars_none hV
  have k0 := h0
  have lt0 : ∀ x ∈ p0, x.block < W.heap.size := by obtain ⟨m, hm⟩ := k0; exact DataW.trod_lt m _ _ _ hm
  obtain ⟨fa0, fb0, fc0, ya0, yb0, yc0, m0, rfl, hd0, hp0, ea0, eb0, ec0⟩ := Go.Joins.open_agg3 Tryd.underlying24 (by kernel_rfl) cellsArm (hval 0 24 v0_ rfl rfl) h0
  obtain ⟨p0_, lp0, cp0, zp0, rfl, wp0⟩ := open_row Tryd.underlying22 Tryd.underlying3 (by kernel_rfl) ea0
  obtain ⟨q0_, lq0, cq0, zq0, rfl, wq0⟩ := open_row Tryd.underlying22 Tryd.underlying3 (by kernel_rfl) eb0
  obtain ⟨r0_, lr0, cr0, zr0, rfl, wt0⟩ := open_row Tryd.underlying22 Tryd.underlying3 (by kernel_rfl) ec0
  obtain ⟨a1, len1, cap1, rfl⟩ := okWide_slice Tryd.underlying22 (hval 1 22 v1_ rfl rfl)
  have k1 := h1
  have lt1 : ∀ x ∈ p1, x.block < W.heap.size := by obtain ⟨m, hm⟩ := k1; exact DataW.trod_lt m _ _ _ hm
  obtain ⟨z1, w1⟩ : ∃ zs, IsRow .i64 W a1 len1 cap1 zs := by
    obtain ⟨fuel, hf⟩ := h1
    rcases open_ints Tryd.underlying22 Tryd.underlying3 (by kernel_rfl) hf with ⟨hcs, _⟩ | ⟨x, l, c, zs, hcs, _, hl, hm, hz, _, hcell, hwz⟩
    · simp [Value.cells] at hcs
      obtain ⟨rfl, rfl, rfl⟩ := hcs
      exact ⟨[], .inl ⟨rfl, rfl, rfl, rfl⟩⟩
    · simp [Value.cells] at hcs
      obtain ⟨rfl, rfl, rfl⟩ := hcs
      exact ⟨zs, .inr ⟨_, rfl, hl, hm, by simpa using hz, hcell, hwz⟩⟩
  clear hA0 hval0
  refine (walk p0_ q0_ r0_ lp0 cp0 lq0 cq0 lr0 cr0 zp0 zq0 zr0 a1 len1 cap1 z1 W wp0 wq0 wt0 w1 (of_laid hL)).mono fun e W' ⟨he, bel⟩ => ?_
  subst he
  exact ⟨_, rfl, _, _, _, [], _, [], hW', trodAll_mk1 (shut_bool Tryd.underlying4 _), (trodAll_cons_mk (Below.trod laidOut (by kernel_rfl) (of_decide_eq_true (by kernel_rfl)) k0 bel lt0) (trodAll_cons_mk (Below.trod laidOut (by kernel_rfl) (of_decide_eq_true (by kernel_rfl)) k1 bel lt1) trodAll_mk0)), rfl, bel.frame _, fun h => by cases h⟩
theorem over : Rows.FnExactTipOfSaid :=
  OpenClaim.holds_of_wide 3 Tryd.f3 rfl rfl rfl rfl rfl rfl rfl ⟨rfl, rfl, rfl, rfl, rfl⟩ rfl rfl rfl rfl rfl (by kernel_rfl) Tryd.func3 (by kernel_rfl)
    (of_decide_eq_true (by kernel_rfl)) (by unfold Func.isWrapper; first | (rw [if_pos (by decide +kernel)]; kernel_rfl) | (rw [if_neg (by decide +kernel)]; exact ⟨rfl, rfl⟩))
    (fun os started H enc _ => lifted os started H enc)
theorem proved : Rows.FnExactTipOfCardSaid :=
  Claim7.holds_tied_plain_at .later [] [.data, .data, .data] true (true, "03f185bd6a0039b5c2354483eb655e47d0847bbe158a00b79e0488207aa63ddd") false
    over (fun _ h => by cases h) (by kernel_rfl) (fun _ h => by cases h) fnExactTipOf_row_tie rfl ⟨rfl, rfl⟩ (by kernel_rfl) rfl
    (fun f fn hf hfn => by
      obtain rfl : f = 3 := Option.some.inj ((show Tryd.prog.funcNamed "loop.example/robotcell/laws.FnExactTipOf" = some 3 by kernel_rfl).symm.trans hf) |>.symm
      obtain rfl : fn = Tryd.f3 := (Option.some.inj (Tryd.func3.symm.trans hfn)).symm
      exact ⟨by kernel_rfl, fun j t ht => by
        rw [Tryd.params3] at ht
        have hm : t ∈ [24, 22] := by simpa using Array.mem_of_getElem? ht
        have hall : ([24, 22].all fun u => !Tryd.prog.wantsStandIn u) = true := by kernel_rfl
        exact (show Tryd.prog.wantsStandIn t = false by simpa using List.all_eq_true.1 hall t hm)⟩)
    (by kernel_rfl)
#print axioms proved
end Go.Proofs.YtegmhflbndnadaaDoor.fnExactTipOf
