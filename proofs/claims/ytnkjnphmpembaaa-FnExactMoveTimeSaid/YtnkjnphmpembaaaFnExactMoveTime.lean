/- Proves that the law FnExactMoveTime returns true for every input. Conditions: none. -/
import Derived.Test.YtnkjnphmpembaaaRows
import Derived.Test.YtnkjnphmpembaaaMove
import Derived.Test.YtnkjnphmpembaaaArmEq
import Derived.ChangeOld
import Derived.ShutString
import Derived.Lib.SmallJoins
import Derived.Deep.RegionHeld3
namespace Go.Proofs.Ytnkjnphmpembaaa.fnExactMoveTime
open Go.ChangeShapes Go.WideShapes Go.ChangeAt Go.RowKit
set_option linter.unusedVariables false
set_option maxHeartbeats 4000000 in
theorem walk (p0 q0 r0 : Option Addr) (lp0 cp0 lq0 cq0 lr0 cr0 : Nat) (zp0 zq0 zr0 : List Int) (a1 : Option Addr) (len1 cap1 : Nat) (z1 : List Int) (a2 : Option Addr) (len2 cap2 : Nat) (z2 : List Int) (a3 : Int) (a4 : Int) (w : World) (wp0 : IsRow .i64 w p0 lp0 cp0 zp0) (wq0 : IsRow .i64 w q0 lq0 cq0 zq0) (wt0 : IsRow .i64 w r0 lr0 cr0 zr0) (w1 : IsRow .i64 w a1 len1 cap1 z1) (w2 : IsRow .i64 w a2 len2 cap2 z2) (w3 : (Lit.int .i64 a3).wf = true) (w4 : (Lit.int .i64 a4).wf = true) :
    Calls Try.prog 11 #[.agg #[.slice p0 lp0 cp0, .slice q0 lq0 cq0, .slice r0 lr0 cr0], .slice a1 len1 cap1, .slice a2 len2 cap2, .int .i64 a3, .int .i64 a4] w fun e w' => e = .returned (.bool true) ∧ Below w.heap.size w w' := by
  obtain ⟨l, lo, hi, ⟨h1, h2, h3⟩, hr⟩ := ArmAt.of_rows wp0 wq0 wt0
  have g1 := wp0.size
  have g2 := wq0.size
  have g3 := wt0.size
  replace hr := Lib.hid (show ArmAt w w.heap.size p0 q0 r0 l lo hi from hr)
  clear wp0 wq0 wt0
  have hrw := hr
  replace h1 := Lib.hid h1
  replace h2 := Lib.hid h2
  replace h3 := Lib.hid h3
  have u1 := w1.size
  obtain ⟨hj1, hl1⟩ := Row.of_isRow w1
  obtain ⟨j1, ej1⟩ : ∃ j, j = z1.take len1 := ⟨_, rfl⟩
  rw [← ej1] at hj1 hl1
  clear w1 ej1
  replace hl1 := Lib.hid hl1
  replace hj1 := Lib.hid hj1
  have hjw1 := hj1
  have u2 := w2.size
  obtain ⟨hj2, hl2⟩ := Row.of_isRow w2
  obtain ⟨j2, ej2⟩ : ∃ j, j = z2.take len2 := ⟨_, rfl⟩
  rw [← ej2] at hj2 hl2
  clear w2 ej2
  replace hl2 := Lib.hid hl2
  replace hj2 := Lib.hid hj2
  have hjw2 := hj2
  have bb := Lib.hid (Below.refl w.heap.size w)
  have k0 := Cell3.new (w) (.slice p0 lp0 cp0) (.slice q0 lq0 cq0) (.slice r0 lr0 cr0) 30
  replace hr := Lib.hid (hr.out.after (bel_new (w) (.cells #[.slice p0 lp0 cp0, .slice q0 lq0 cq0, .slice r0 lr0 cr0] 30)))
  replace hj1 := Lib.hid (hj1.out.after (bel_new (w) (.cells #[.slice p0 lp0 cp0, .slice q0 lq0 cq0, .slice r0 lr0 cr0] 30)))
  replace hj2 := Lib.hid (hj2.out.after (bel_new (w) (.cells #[.slice p0 lp0 cp0, .slice q0 lq0 cq0, .slice r0 lr0 cr0] 30)))
  replace bb := Lib.hid (bel_after bb.out (bel_new (w) (.cells #[.slice p0 lp0 cp0, .slice q0 lq0 cq0, .slice r0 lr0 cr0] 30)))
  have hv0 : True := trivial
  by_cases hs1 : (1048576 : Int) < len1
  · go_enter Try.func11, Try.ntmps11
    obtain ⟨k0x, k0y, k0z, k0u, k0v, k0w⟩ := id k0
    go_wp2_with fail
    clear k0x k0y k0z k0u k0v k0w
    go_ret
    exact ⟨rfl, bb.out⟩
  · have hs1n : len1 ≤ 1048576 := by omega
    by_cases hs2 : (1048576 : Int) < len2
    · go_enter Try.func11, Try.ntmps11
      obtain ⟨k0x, k0y, k0z, k0u, k0v, k0w⟩ := id k0
      go_wp2_with fail
      clear k0x k0y k0z k0u k0v k0w
      go_ret
      exact ⟨rfl, bb.out⟩
    · have hs2n : len2 ≤ 1048576 := by omega
      by_cases hsz : lp0 + lq0 + lr0 ≤ 1048576
      · go_enter Try.func11, Try.ntmps11
        obtain ⟨k0x, k0y, k0z, k0u, k0v, k0w⟩ := id k0
        go_wp2_with fail
        clear k0x k0y k0z k0u k0v k0w
        refine (sz_arm_yes p0 q0 r0 lp0 cp0 lq0 cq0 lr0 cr0 _ hsz).mono ?_
        rintro e w1 ⟨rfl, q⟩
        have z1 := q.size
        replace hr := Lib.hid (hr.out.after q)
        replace hj1 := Lib.hid (hj1.out.after q)
        replace hj2 := Lib.hid (hj2.out.after q)
        replace bb := Lib.hid (bel_after bb.out q)
        replace k0 := k0.after q
        clear q
        have hz : (0 : Int) ≤ 1048576 - lp0 - lq0 - lr0 := by omega
        obtain ⟨k0x, k0y, k0z, k0u, k0v, k0w⟩ := id k0
        go_wp2_with fail
        clear k0x k0y k0z k0u k0v k0w
        refine (to_arm p0 q0 r0 lp0 cp0 lq0 cq0 lr0 cr0 l lo hi _ h1.out h2.out h3.out (by omega) (by omega) (by omega) hr.out).mono ?_
        rintro e w2 ⟨xa1, ya1, xa2, ya2, xa3, ya3, rfl, ma, q⟩
        have z2 := q.size
        replace hr := Lib.hid (hr.out.after q)
        replace hj1 := Lib.hid (hj1.out.after q)
        replace hj2 := Lib.hid (hj2.out.after q)
        replace bb := Lib.hid (bel_after bb.out q)
        replace k0 := k0.after q
        clear q
        replace ma := Lib.hid ma
        obtain ⟨k0x, k0y, k0z, k0u, k0v, k0w⟩ := id k0
        go_wp2_with fail
        clear k0x k0y k0z k0u k0v k0w
        refine (to_ints a1 len1 cap1 j1 _ hl1.out hs1n hj1.out).mono ?_
        rintro e w3 hq
        obtain ⟨xaj1, yaj1, rfl, maj1, q⟩ := ints_view hl1.out hq
        have z3 := q.size
        replace hr := Lib.hid (hr.out.after q)
        replace hj1 := Lib.hid (hj1.out.after q)
        replace hj2 := Lib.hid (hj2.out.after q)
        replace bb := Lib.hid (bel_after bb.out q)
        replace k0 := k0.after q
        replace ma := Lib.hid (ma.out.after q)
        clear q hq
        replace maj1 := Lib.hid maj1
        obtain ⟨k0x, k0y, k0z, k0u, k0v, k0w⟩ := id k0
        go_wp2_with fail
        clear k0x k0y k0z k0u k0v k0w
        refine (to_ints a2 len2 cap2 j2 _ hl2.out hs2n hj2.out).mono ?_
        rintro e w4 hq
        obtain ⟨xaj2, yaj2, rfl, maj2, q⟩ := ints_view hl2.out hq
        have z4 := q.size
        replace hr := Lib.hid (hr.out.after q)
        replace hj1 := Lib.hid (hj1.out.after q)
        replace hj2 := Lib.hid (hj2.out.after q)
        replace bb := Lib.hid (bel_after bb.out q)
        replace k0 := k0.after q
        replace ma := Lib.hid (ma.out.after q)
        replace maj1 := Lib.hid (maj1.out.after q)
        clear q hq
        replace maj2 := Lib.hid maj2
        obtain ⟨k0x, k0y, k0z, k0u, k0v, k0w⟩ := id k0
        go_wp2_with fail
        clear k0x k0y k0z k0u k0v k0w
        refine (spec_mtime xa1 xa2 xa3 xaj1 xaj2 lp0 ya1 lq0 ya2 lr0 ya3 len1 yaj1 len2 yaj2 l lo hi j1 j2 a3 a4 _ h1.out h2.out h3.out hl1.out hl2.out (by omega) (by omega) (by omega) ma.out.row maj1.out.row maj2.out.row).mono ?_
        rintro e w5 ⟨rfl, q⟩
        have z5 := q.size
        replace hr := Lib.hid (hr.out.after q)
        replace hj1 := Lib.hid (hj1.out.after q)
        replace hj2 := Lib.hid (hj2.out.after q)
        replace bb := Lib.hid (bel_after bb.out q)
        replace k0 := k0.after q
        replace ma := Lib.hid (ma.out.after q)
        replace maj1 := Lib.hid (maj1.out.after q)
        replace maj2 := Lib.hid (maj2.out.after q)
        clear q
        clear ma maj1 maj2
        obtain ⟨k0x, k0y, k0z, k0u, k0v, k0w⟩ := id k0
        go_wp2_with fail
        clear k0x k0y k0z k0u k0v k0w
        refine (to_arm p0 q0 r0 lp0 cp0 lq0 cq0 lr0 cr0 l lo hi _ h1.out h2.out h3.out (by omega) (by omega) (by omega) hr.out).mono ?_
        rintro e w6 ⟨xb1, yb1, xb2, yb2, xb3, yb3, rfl, mb, q⟩
        have z6 := q.size
        replace hr := Lib.hid (hr.out.after q)
        replace hj1 := Lib.hid (hj1.out.after q)
        replace hj2 := Lib.hid (hj2.out.after q)
        replace bb := Lib.hid (bel_after bb.out q)
        replace k0 := k0.after q
        clear q
        replace mb := Lib.hid mb
        obtain ⟨k0x, k0y, k0z, k0u, k0v, k0w⟩ := id k0
        go_wp2_with fail
        clear k0x k0y k0z k0u k0v k0w
        have k1 := Cell3.new w6 (.slice xb1 lp0 yb1) (.slice xb2 lq0 yb2) (.slice xb3 lr0 yb3) 25
        have zv := (bel_new w6 (.cells #[.slice xb1 lp0 yb1, .slice xb2 lq0 yb2, .slice xb3 lr0 yb3] 25)).size
        replace hr := Lib.hid (hr.out.after (bel_new w6 (.cells #[.slice xb1 lp0 yb1, .slice xb2 lq0 yb2, .slice xb3 lr0 yb3] 25)))
        replace hj1 := Lib.hid (hj1.out.after (bel_new w6 (.cells #[.slice xb1 lp0 yb1, .slice xb2 lq0 yb2, .slice xb3 lr0 yb3] 25)))
        replace hj2 := Lib.hid (hj2.out.after (bel_new w6 (.cells #[.slice xb1 lp0 yb1, .slice xb2 lq0 yb2, .slice xb3 lr0 yb3] 25)))
        replace bb := Lib.hid (bel_after bb.out (bel_new w6 (.cells #[.slice xb1 lp0 yb1, .slice xb2 lq0 yb2, .slice xb3 lr0 yb3] 25)))
        replace k0 := k0.after (bel_new w6 (.cells #[.slice xb1 lp0 yb1, .slice xb2 lq0 yb2, .slice xb3 lr0 yb3] 25))
        replace mb := Lib.hid (mb.out.after (bel_new w6 (.cells #[.slice xb1 lp0 yb1, .slice xb2 lq0 yb2, .slice xb3 lr0 yb3] 25)))
        generalize hK : w6.heap.size = K1 at k1 ⊢
        clear hK
        generalize w6.alloc (.cells #[.slice xb1 lp0 yb1, .slice xb2 lq0 yb2, .slice xb3 lr0 yb3] 25) = v at *
        obtain ⟨w7, rfl⟩ : ∃ u : World, u = v := ⟨_, rfl⟩
        refine (to_ints a1 len1 cap1 j1 _ hl1.out hs1n hj1.out).mono ?_
        rintro e w8 hq
        obtain ⟨xbj1, ybj1, rfl, mbj1, q⟩ := ints_view hl1.out hq
        have z8 := q.size
        replace hr := Lib.hid (hr.out.after q)
        replace hj1 := Lib.hid (hj1.out.after q)
        replace hj2 := Lib.hid (hj2.out.after q)
        replace bb := Lib.hid (bel_after bb.out q)
        replace k0 := k0.after q
        replace mb := Lib.hid (mb.out.after q)
        replace k1 := k1.after q
        clear q hq
        replace mbj1 := Lib.hid mbj1
        obtain ⟨k0x, k0y, k0z, k0u, k0v, k0w⟩ := id k0
        obtain ⟨k1x, k1y, k1z, k1u, k1v, k1w⟩ := id k1
        go_wp2_with fail
        clear k0x k0y k0z k0u k0v k0w k1x k1y k1z k1u k1v k1w
        refine (to_ints a2 len2 cap2 j2 _ hl2.out hs2n hj2.out).mono ?_
        rintro e w9 hq
        obtain ⟨xbj2, ybj2, rfl, mbj2, q⟩ := ints_view hl2.out hq
        have z9 := q.size
        replace hr := Lib.hid (hr.out.after q)
        replace hj1 := Lib.hid (hj1.out.after q)
        replace hj2 := Lib.hid (hj2.out.after q)
        replace bb := Lib.hid (bel_after bb.out q)
        replace k0 := k0.after q
        replace mb := Lib.hid (mb.out.after q)
        replace k1 := k1.after q
        replace mbj1 := Lib.hid (mbj1.out.after q)
        clear q hq
        replace mbj2 := Lib.hid mbj2
        obtain ⟨k0x, k0y, k0z, k0u, k0v, k0w⟩ := id k0
        obtain ⟨k1x, k1y, k1z, k1u, k1v, k1w⟩ := id k1
        go_wp2_with fail
        clear k0x k0y k0z k0u k0v k0w k1x k1y k1z k1u k1v k1w
        refine (impl_mtime xb1 xb2 xb3 xbj1 xbj2 lp0 yb1 lq0 yb2 lr0 yb3 len1 ybj1 len2 ybj2 l lo hi j1 j2 a3 a4 _ h1.out h2.out h3.out hl1.out hl2.out (by omega) (by omega) (by omega) mb.out.row mbj1.out.row mbj2.out.row).mono ?_
        rintro e w10 ⟨rfl, q⟩
        have z10 := q.size
        replace hr := Lib.hid (hr.out.after q)
        replace hj1 := Lib.hid (hj1.out.after q)
        replace hj2 := Lib.hid (hj2.out.after q)
        replace bb := Lib.hid (bel_after bb.out q)
        replace k0 := k0.after q
        replace mb := Lib.hid (mb.out.after q)
        replace k1 := k1.after q
        replace mbj1 := Lib.hid (mbj1.out.after q)
        replace mbj2 := Lib.hid (mbj2.out.after q)
        clear q
        obtain ⟨k0x, k0y, k0z, k0u, k0v, k0w⟩ := id k0
        obtain ⟨k1x, k1y, k1z, k1u, k1v, k1w⟩ := id k1
        go_wp2_with fail
        clear k0x k0y k0z k0u k0v k0w k1x k1y k1z k1u k1v k1w
        have _tok := True.intro
        replace hr := Lib.hid (hr.out.after (bel_drew _))
        replace hj1 := Lib.hid (hj1.out.after (bel_drew _))
        replace hj2 := Lib.hid (hj2.out.after (bel_drew _))
        replace bb := Lib.hid (bel_after bb.out (bel_drew _))
        replace k0 := k0.after (bel_drew _)
        replace mb := Lib.hid (mb.out.after (bel_drew _))
        replace k1 := k1.after (bel_drew _)
        replace mbj1 := Lib.hid (mbj1.out.after (bel_drew _))
        replace mbj2 := Lib.hid (mbj2.out.after (bel_drew _))
        have s := And.intro (And.intro k0.c0 (And.intro k0.c1 k0.c2)) (And.intro k1.c0 (And.intro k1.c1 k1.c2))
        go_region_held3 (fun w' => (w'.cell? ⟨w.heap.size, 0, none⟩ = some (.slice p0 lp0 cp0) ∧ w'.cell? ⟨w.heap.size, 1, none⟩ = some (.slice q0 lq0 cq0) ∧ w'.cell? ⟨w.heap.size, 2, none⟩ = some (.slice r0 lr0 cr0)) ∧ (w'.cell? ⟨K1, 0, none⟩ = some (.slice xb1 lp0 yb1) ∧ w'.cell? ⟨K1, 1, none⟩ = some (.slice xb2 lq0 yb2) ∧ w'.cell? ⟨K1, 2, none⟩ = some (.slice xb3 lr0 yb3))) (first | (with_reducible assumption) | go_keep) (first | (go_at_call 18; refine (to_arm p0 q0 r0 lp0 cp0 lq0 cq0 lr0 cr0 l lo hi _ h1.out h2.out h3.out (by omega) (by omega) (by omega) hr.out).mono ?_; rintro e wa ⟨xe1, ye1, xe2, ye2, xe3, ye3, rfl, me, q⟩; replace hr := Lib.hid (hr.out.after q); replace hj1 := Lib.hid (hj1.out.after q); replace hj2 := Lib.hid (hj2.out.after q); replace bb := Lib.hid (bel_after bb.out q); replace k0 := k0.after q; replace mb := Lib.hid (mb.out.after q); replace k1 := k1.after q; replace mbj1 := Lib.hid (mbj1.out.after q); replace mbj2 := Lib.hid (mbj2.out.after q); replace me := Lib.hid me; clear q s; have s := And.intro (And.intro k0.c0 (And.intro k0.c1 k0.c2)) (And.intro k1.c0 (And.intro k1.c1 k1.c2))) | (go_at_call 19; refine (eq_arm_yes xb1 xb2 xb3 xe1 xe2 xe3 lp0 lq0 lr0 yb1 yb2 yb3 ye1 ye2 ye3 l lo hi _ h1.out h2.out h3.out (by omega) mb.out.row me.out.row).mono ?_; rintro e wb ⟨rfl, q⟩; replace hr := Lib.hid (hr.out.after q); replace hj1 := Lib.hid (hj1.out.after q); replace hj2 := Lib.hid (hj2.out.after q); replace bb := Lib.hid (bel_after bb.out q); replace k0 := k0.after q; replace mb := Lib.hid (mb.out.after q); replace k1 := k1.after q; replace mbj1 := Lib.hid (mbj1.out.after q); replace mbj2 := Lib.hid (mbj2.out.after q); clear q s me; have s := And.intro (And.intro k0.c0 (And.intro k0.c1 k0.c2)) (And.intro k1.c0 (And.intro k1.c1 k1.c2))))
        clear s
        go_wp2_with fail
        refine (to_ints a1 len1 cap1 j1 _ hl1.out hs1n hj1.out).mono ?_
        rintro e w11 hq
        obtain ⟨xcj1, ycj1, rfl, mcj1, q⟩ := ints_view hl1.out hq
        have z11 := q.size
        replace hr := Lib.hid (hr.out.after q)
        replace hj1 := Lib.hid (hj1.out.after q)
        replace hj2 := Lib.hid (hj2.out.after q)
        replace bb := Lib.hid (bel_after bb.out q)
        replace k0 := k0.after q
        replace mb := Lib.hid (mb.out.after q)
        replace k1 := k1.after q
        replace mbj1 := Lib.hid (mbj1.out.after q)
        replace mbj2 := Lib.hid (mbj2.out.after q)
        clear q hq
        replace mcj1 := Lib.hid mcj1
        go_wp2_with fail
        refine (eq_ints_yes xbj1 xcj1 len1 ybj1 ycj1 j1 _ hl1.out (by omega) mbj1.out.row mcj1.out.row).mono ?_
        rintro e w12 ⟨rfl, q⟩
        have z12 := q.size
        replace hr := Lib.hid (hr.out.after q)
        replace hj1 := Lib.hid (hj1.out.after q)
        replace hj2 := Lib.hid (hj2.out.after q)
        replace bb := Lib.hid (bel_after bb.out q)
        replace k0 := k0.after q
        replace mb := Lib.hid (mb.out.after q)
        replace k1 := k1.after q
        replace mbj1 := Lib.hid (mbj1.out.after q)
        replace mbj2 := Lib.hid (mbj2.out.after q)
        replace mcj1 := Lib.hid (mcj1.out.after q)
        clear q
        clear mcj1
        go_wp2_with fail
        refine (to_ints a2 len2 cap2 j2 _ hl2.out hs2n hj2.out).mono ?_
        rintro e w13 hq
        obtain ⟨xcj2, ycj2, rfl, mcj2, q⟩ := ints_view hl2.out hq
        have z13 := q.size
        replace hr := Lib.hid (hr.out.after q)
        replace hj1 := Lib.hid (hj1.out.after q)
        replace hj2 := Lib.hid (hj2.out.after q)
        replace bb := Lib.hid (bel_after bb.out q)
        replace k0 := k0.after q
        replace mb := Lib.hid (mb.out.after q)
        replace k1 := k1.after q
        replace mbj1 := Lib.hid (mbj1.out.after q)
        replace mbj2 := Lib.hid (mbj2.out.after q)
        clear q hq
        replace mcj2 := Lib.hid mcj2
        go_wp2_with fail
        refine (eq_ints_yes xbj2 xcj2 len2 ybj2 ycj2 j2 _ hl2.out (by omega) mbj2.out.row mcj2.out.row).mono ?_
        rintro e w14 ⟨rfl, q⟩
        have z14 := q.size
        replace hr := Lib.hid (hr.out.after q)
        replace hj1 := Lib.hid (hj1.out.after q)
        replace hj2 := Lib.hid (hj2.out.after q)
        replace bb := Lib.hid (bel_after bb.out q)
        replace k0 := k0.after q
        replace mb := Lib.hid (mb.out.after q)
        replace k1 := k1.after q
        replace mbj1 := Lib.hid (mbj1.out.after q)
        replace mbj2 := Lib.hid (mbj2.out.after q)
        replace mcj2 := Lib.hid (mcj2.out.after q)
        clear q
        clear mcj2
        go_wp2_with fail
        go_ret
        exact ⟨rfl, bb.out⟩
      · go_enter Try.func11, Try.ntmps11
        obtain ⟨k0x, k0y, k0z, k0u, k0v, k0w⟩ := id k0
        go_wp2_with fail
        clear k0x k0y k0z k0u k0v k0w
        refine (sz_arm_no p0 q0 r0 lp0 cp0 lq0 cq0 lr0 cr0 _ g1 g2 g3 hsz).mono ?_
        rintro e w15 ⟨rfl, q⟩
        have z15 := q.size
        replace hr := Lib.hid (hr.out.after q)
        replace hj1 := Lib.hid (hj1.out.after q)
        replace hj2 := Lib.hid (hj2.out.after q)
        replace bb := Lib.hid (bel_after bb.out q)
        replace k0 := k0.after q
        clear q
        obtain ⟨k0x, k0y, k0z, k0u, k0v, k0w⟩ := id k0
        go_wp2_with fail
        clear k0x k0y k0z k0u k0v k0w
        go_ret
        exact ⟨rfl, bb.out⟩
theorem own : ownKnob Try.prog.godebug = none := by kernel_rfl
theorem laidOut : laidOutB Try.prog = true := by kernel_rfl
theorem cellsArm : Try.prog.cellsOf 30 = 3 := by kernel_rfl
set_option maxRecDepth 100000 in
theorem lifted (os : Os) (started : os.Started) (H : Type) (enc : TypeId × Value → H) :
    ReturnsInHanded {} Try.checked os 11 .any (Rows.fnExactMoveTimeSpec.pre6 enc Try.prog Try.f11 Rows.fnExactMoveTimeRow.domain false) (Rows.fnExactMoveTimeSpec.post enc Try.prog Try.f11 false true false false) := by
  refine returnsInHanded_of_change (C := Try.checked) own started (by kernel_rfl) Try.func11
    (ChangeSpec.witness6 (enc := enc) (C := Try.checked) false ⟨#[], #[.agg #[.slice none 0 0, .slice none 0 0, .slice none 0 0], .slice none 0 0, .slice none 0 0, .int .i64 0, .int .i64 0], []⟩ 8 (by kernel_rfl) (by kernel_rfl) (by kernel_rfl) (by kernel_rfl)) ?_
  intro W base args ds gs before hval0 hW hcnd _
  have hval : ∀ (j : Nat) t v, Try.f11.params[j]? = some t → args[j]? = some v → Value.okWide Try.prog W .any base t v := hval0
  have hW' := hW
  obtain ⟨p, q, hA0, hV, rfl, hfz, hnd⟩ := hW
  have hA : DataW.TrodAll enc Try.prog W 0 (fun _ => true) true Try.f11.params.toList args.toList ds p := hA0
  rw [Try.params11] at hA hval
  obtain ⟨v0_, vs0, d0, ds0, p0, q0, hargs, rfl, rfl, h0, r0⟩ := trodAll_cons hA
  obtain ⟨v1_, vs1, d1, ds1, p1, q1, rfl, rfl, rfl, h1, r1⟩ := trodAll_cons r0
  obtain ⟨v2_, vs2, d2, ds2, p2, q2, rfl, rfl, rfl, h2, r2⟩ := trodAll_cons r1
  obtain ⟨v3_, vs3, d3, ds3, p3, q3, rfl, rfl, rfl, h3, r3⟩ := trodAll_cons r2
  obtain ⟨v4_, vs4, d4, ds4, p4, q4, rfl, rfl, rfl, h4, r4⟩ := trodAll_cons r3
  obtain ⟨rfl, rfl, rfl⟩ := trodAll_nil r4
  obtain rfl : args = #[v0_, v1_, v2_, v3_, v4_] := by cases args; simp_all
  obtain ⟨rfl, rfl⟩ := trodVars_none hV
  have k0 := h0
  have lt0 : ∀ x ∈ p0, x.block < W.heap.size := by obtain ⟨m, hm⟩ := k0; exact DataW.trod_lt m _ _ _ hm
  obtain ⟨fa0, fb0, fc0, ya0, yb0, yc0, m0, rfl, hd0, hp0, ea0, eb0, ec0⟩ := Go.Joins.open_agg3 Try.underlying30 (by kernel_rfl) cellsArm (hval 0 30 v0_ rfl rfl) h0
  obtain ⟨p0_, lp0, cp0, zp0, rfl, wp0⟩ := open_row Try.underlying23 Try.underlying3 (by kernel_rfl) ea0
  obtain ⟨q0_, lq0, cq0, zq0, rfl, wq0⟩ := open_row Try.underlying23 Try.underlying3 (by kernel_rfl) eb0
  obtain ⟨r0_, lr0, cr0, zr0, rfl, wt0⟩ := open_row Try.underlying23 Try.underlying3 (by kernel_rfl) ec0
  obtain ⟨a1, len1, cap1, rfl⟩ := okWide_slice Try.underlying23 (hval 1 23 v1_ rfl rfl)
  have k1 := h1
  have lt1 : ∀ x ∈ p1, x.block < W.heap.size := by obtain ⟨m, hm⟩ := k1; exact DataW.trod_lt m _ _ _ hm
  obtain ⟨z1, w1⟩ : ∃ zs, IsRow .i64 W a1 len1 cap1 zs := by
    obtain ⟨fuel, hf⟩ := h1
    rcases open_ints Try.underlying23 Try.underlying3 (by kernel_rfl) hf with ⟨hcs, _⟩ | ⟨x, l, c, zs, hcs, _, hl, hm, hz, _, hcell, hwz⟩
    · simp [Value.cells] at hcs
      obtain ⟨rfl, rfl, rfl⟩ := hcs
      exact ⟨[], .inl ⟨rfl, rfl, rfl, rfl⟩⟩
    · simp [Value.cells] at hcs
      obtain ⟨rfl, rfl, rfl⟩ := hcs
      exact ⟨zs, .inr ⟨_, rfl, hl, hm, by simpa using hz, hcell, hwz⟩⟩
  obtain ⟨a2, len2, cap2, rfl⟩ := okWide_slice Try.underlying23 (hval 2 23 v2_ rfl rfl)
  have k2 := h2
  have lt2 : ∀ x ∈ p2, x.block < W.heap.size := by obtain ⟨m, hm⟩ := k2; exact DataW.trod_lt m _ _ _ hm
  obtain ⟨z2, w2⟩ : ∃ zs, IsRow .i64 W a2 len2 cap2 zs := by
    obtain ⟨fuel, hf⟩ := h2
    rcases open_ints Try.underlying23 Try.underlying3 (by kernel_rfl) hf with ⟨hcs, _⟩ | ⟨x, l, c, zs, hcs, _, hl, hm, hz, _, hcell, hwz⟩
    · simp [Value.cells] at hcs
      obtain ⟨rfl, rfl, rfl⟩ := hcs
      exact ⟨[], .inl ⟨rfl, rfl, rfl, rfl⟩⟩
    · simp [Value.cells] at hcs
      obtain ⟨rfl, rfl, rfl⟩ := hcs
      exact ⟨zs, .inr ⟨_, rfl, hl, hm, by simpa using hz, hcell, hwz⟩⟩
  obtain ⟨a3, rfl, rfl, rfl, w3⟩ := open_int Try.underlying3 (hval 3 3 v3_ rfl rfl) h3
  obtain ⟨a4, rfl, rfl, rfl, w4⟩ := open_int Try.underlying3 (hval 4 3 v4_ rfl rfl) h4
  clear hA0 hval0
  refine (walk p0_ q0_ r0_ lp0 cp0 lq0 cq0 lr0 cr0 zp0 zq0 zr0 a1 len1 cap1 z1 a2 len2 cap2 z2 a3 a4 W wp0 wq0 wt0 w1 w2 w3 w4).mono fun e W' ⟨he, bel⟩ => ?_
  subst he
  exact ⟨_, rfl, _, _, _, [], _, [], hW', trodAll_mk1 (shut_bool Try.underlying4 _), (trodAll_cons_mk (Below.trod laidOut (by kernel_rfl) (of_decide_eq_true (by kernel_rfl)) k0 bel lt0) (trodAll_cons_mk (Below.trod laidOut (by kernel_rfl) (of_decide_eq_true (by kernel_rfl)) k1 bel lt1) (trodAll_cons_mk (Below.trod laidOut (by kernel_rfl) (of_decide_eq_true (by kernel_rfl)) k2 bel lt2) (trodAll_cons_mk (shut_int Try.underlying3 w3) (trodAll_cons_mk (shut_int Try.underlying3 w4) trodAll_mk0))))), rfl, bel.frame _, fun h => by cases h⟩
theorem over : Rows.fnExactMoveTimeRow.holds Try.pinned (OpenSpec.ofChange Rows.fnExactMoveTimeSpec) :=
  OpenClaim.holds_of_wide 11 Try.f11 rfl rfl rfl rfl rfl rfl rfl ⟨rfl, rfl, rfl, rfl, rfl⟩ rfl rfl rfl rfl rfl (by kernel_rfl) Try.func11 (by kernel_rfl)
    (of_decide_eq_true (by kernel_rfl)) (by unfold Func.isWrapper; first | (rw [if_pos (by decide +kernel)]; kernel_rfl) | (rw [if_neg (by decide +kernel)]; exact ⟨rfl, rfl⟩))
    (fun os started H enc _ => lifted os started H enc)
theorem proved : Rows.FnExactMoveTimeSaid := over
#print axioms proved
end Go.Proofs.Ytnkjnphmpembaaa.fnExactMoveTime
