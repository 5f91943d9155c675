/- Proves the tied card of the law FnExactSolveArm: it returns true for every input, the tables of the sine being as laid by the program text. -/
import Derived.Test.YtmainffjekjlnaaDoorCards
import Derived.Test.YtmainffjekjlnaaDoorTie
import Derived.Test.YtmainffjekjlnaaDoorLaid
import Derived.Test.YtmainffjekjlnaaDoorSolveS
import Derived.Test.YtmainffjekjlnaaDoorArmEq
import Derived.ChangeOld
import Derived.ShutString
import Derived.Lib.SmallJoins
import Derived.LaidMore
import Derived.Stop.Joined
import Derived.SevenTiedAt
import Derived.Deep.RegionHeld3
import Derived.Deep.DeepCutAuto
import Derived.Deep.CutBlock
namespace Go.Proofs.YtmainffjekjlnaaDoor.fnExactSolveArm
open Go.ChangeShapes Go.WideShapes Go.ChangeAt Go.RowKit
set_option linter.unusedVariables false
theorem M.solve_len (l lo hi : List Int) (X Y : Int) : (M.solve l lo hi X Y).length ≤ 2 := by
  unfold M.solve
  split
  · rename_i h
    obtain ⟨u, v, e, _⟩ := M.found_best (X := X) (Y := Y) h.1 h.2.1
    rw [e]; exact Nat.le_refl _
  · exact Nat.zero_le _
theorem slotKept {may : Nat → Prop} {w w' : World} {k : Nat} {x y : Int} (h : Slot w k x y) (hk : Kept may w w') (hm : ¬ may k) : Slot w' k x y := by
  have hb := hk.block k h.2.2.2.2 hm
  exact ⟨(World.cell?_of_block (w := w) hb).trans h.1, (World.cell?_of_block (w := w) hb).trans h.2.1, (World.frozen?_of_block (w := w) hb).trans h.2.2.1, (World.frozen?_of_block (w := w) hb).trans h.2.2.2.1, Nat.lt_of_lt_of_le h.2.2.2.2 hk.size⟩
set_option maxRecDepth 20000 in
set_option maxHeartbeats 4000000 in
theorem walk (p0 q0 r0 : Option Addr) (lp0 cp0 lq0 cq0 lr0 cr0 : Nat) (zp0 zq0 zr0 : List Int) (x1 y1 : Int) (w : World) (wp0 : IsRow .i64 w p0 lp0 cp0 zp0) (wq0 : IsRow .i64 w q0 lq0 cq0 zq0) (wt0 : IsRow .i64 w r0 lr0 cr0 zr0) (u1 : (Lit.int .i64 x1).wf = true) (v1 : (Lit.int .i64 y1).wf = true) (hT : Tables w) :
    Calls Tryd.prog 4 #[.agg #[.slice p0 lp0 cp0, .slice q0 lq0 cq0, .slice r0 lr0 cr0], .agg #[.int .i64 x1, .int .i64 y1]] w fun e w' => e = .returned (.bool true) ∧ Below w.heap.size w w' := by
  replace hT := Lib.hid hT
  have hTw := hT
  obtain ⟨l, lo, hi, ⟨h1, h2, h3⟩, hr⟩ := ArmAt.of_rows wp0 wq0 wt0
  have g1 := wp0.size
  have g2 := wq0.size
  have g3 := wt0.size
  replace hr := Lib.hid (show ArmAt w w.heap.size p0 q0 r0 l lo hi from hr)
  clear wp0 wq0 wt0
  have hrw := hr
  replace h1 := Lib.hid h1
  replace h2 := Lib.hid h2
  replace h3 := Lib.hid h3
  have bb := Lib.hid (Below.refl w.heap.size w)
  have k0 := Cell3.new (w) (.slice p0 lp0 cp0) (.slice q0 lq0 cq0) (.slice r0 lr0 cr0) 39
  replace hT := Lib.hid (hT.out.later (bel_new (w) (.cells #[.slice p0 lp0 cp0, .slice q0 lq0 cq0, .slice r0 lr0 cr0] 39)))
  replace hr := Lib.hid (hr.out.after (bel_new (w) (.cells #[.slice p0 lp0 cp0, .slice q0 lq0 cq0, .slice r0 lr0 cr0] 39)))
  replace bb := Lib.hid (bel_after bb.out (bel_new (w) (.cells #[.slice p0 lp0 cp0, .slice q0 lq0 cq0, .slice r0 lr0 cr0] 39)))
  have kp := Slot.new (w.alloc (.cells #[.slice p0 lp0 cp0, .slice q0 lq0 cq0, .slice r0 lr0 cr0] 39)) x1 y1 40
  try rw [World.size_alloc] at kp
  replace hT := Lib.hid (hT.out.later (bel_new (w.alloc (.cells #[.slice p0 lp0 cp0, .slice q0 lq0 cq0, .slice r0 lr0 cr0] 39)) (.cells #[.int .i64 x1, .int .i64 y1] 40)))
  replace hr := Lib.hid (hr.out.after (bel_new (w.alloc (.cells #[.slice p0 lp0 cp0, .slice q0 lq0 cq0, .slice r0 lr0 cr0] 39)) (.cells #[.int .i64 x1, .int .i64 y1] 40)))
  replace bb := Lib.hid (bel_after bb.out (bel_new (w.alloc (.cells #[.slice p0 lp0 cp0, .slice q0 lq0 cq0, .slice r0 lr0 cr0] 39)) (.cells #[.int .i64 x1, .int .i64 y1] 40)))
  replace k0 := k0.after (bel_new (w.alloc (.cells #[.slice p0 lp0 cp0, .slice q0 lq0 cq0, .slice r0 lr0 cr0] 39)) (.cells #[.int .i64 x1, .int .i64 y1] 40))
  have hv0 : True := trivial
  by_cases hsz : lp0 + lq0 + lr0 ≤ 1048576
  · go_enter Tryd.func4, Tryd.ntmps4
    obtain ⟨k0x, k0y, k0z, k0u, k0v, k0w⟩ := id k0
    go_wp2_with fail
    clear k0x k0y k0z k0u k0v k0w
    refine (sz_arm_yes p0 q0 r0 lp0 cp0 lq0 cq0 lr0 cr0 _ hsz).mono ?_
    rintro e w1 ⟨rfl, q⟩
    have z1 := q.size
    replace hT := Lib.hid (hT.out.later q)
    replace hr := Lib.hid (hr.out.after q)
    replace bb := Lib.hid (bel_after bb.out q)
    replace k0 := k0.after q
    replace kp := kp.after q
    clear q
    have hz : (0 : Int) ≤ 1048576 - lp0 - lq0 - lr0 := by omega
    have hnb : (M.solve l lo hi x1 y1).length ≤ 1000000000 := (by have := M.solve_len l lo hi x1 y1; omega)
    obtain ⟨nL, hn⟩ : ∃ n, (M.solve l lo hi x1 y1).length = n := ⟨_, rfl⟩
    rw [hn] at hnb
    generalize hL : M.solve l lo hi x1 y1 = L at *
    replace hL := Lib.hid hL
    replace hn := Lib.hid hn
    have hS1 : w.heap.size + 1 < w.heap.size + 1 + 1 := by omega
    obtain ⟨k0x, k0y, k0z, k0u, k0v, k0w⟩ := id k0
    obtain ⟨kpx, kpy, kpz, kpu, kpv⟩ := id kp
    go_wp2_with fail
    clear k0x k0y k0z k0u k0v k0w kpx kpy kpz kpu kpv
    have _tok := True.intro
    replace hT := Lib.hid (hT.out.later (bel_drew _))
    replace hr := Lib.hid (hr.out.after (bel_drew _))
    replace bb := Lib.hid (bel_after bb.out (bel_drew _))
    replace k0 := k0.after (bel_drew _)
    replace kp := kp.after (bel_drew _)
    have zdr1 : w1.heap.size ≤ w1.drew.heap.size := Nat.le_refl _
    have s := And.intro (And.intro k0.c0 (And.intro k0.c1 k0.c2)) (And.intro kp.1 kp.2.1)
    go_region_held3 (fun w' => (w'.cell? ⟨w.heap.size, 0, none⟩ = some (.slice p0 lp0 cp0) ∧ w'.cell? ⟨w.heap.size, 1, none⟩ = some (.slice q0 lq0 cq0) ∧ w'.cell? ⟨w.heap.size, 2, none⟩ = some (.slice r0 lr0 cr0)) ∧ (w'.cell? ⟨w.heap.size + 1, 0, none⟩ = some (.int .i64 x1) ∧ w'.cell? ⟨w.heap.size + 1, 1, none⟩ = some (.int .i64 y1))) (first | (with_reducible assumption) | go_keep) (first | (go_at_call 19; refine (to_arm p0 q0 r0 lp0 cp0 lq0 cq0 lr0 cr0 l lo hi _ h1.out h2.out h3.out (by omega) (by omega) (by omega) hr.out).mono ?_; rintro e wd1 ⟨xa1, ya1, xa2, ya2, xa3, ya3, rfl, ma, q⟩; have zq1 := q.size; replace hT := Lib.hid (hT.out.later q); replace hr := Lib.hid (hr.out.after q); replace bb := Lib.hid (bel_after bb.out q); replace k0 := k0.after q; replace kp := kp.after q; replace ma := Lib.hid ma; clear q s; have s := And.intro (And.intro k0.c0 (And.intro k0.c1 k0.c2)) (And.intro kp.1 kp.2.1)) | (go_at_call 20; refine (to_point x1 y1 _).mono ?_; rintro e wd3 ⟨rfl, q⟩; have zq3 := q.size; replace hT := Lib.hid (hT.out.later q); replace hr := Lib.hid (hr.out.after q); replace bb := Lib.hid (bel_after bb.out q); replace k0 := k0.after q; replace kp := kp.after q; replace ma := Lib.hid (ma.out.after q); clear q s; have s := And.intro (And.intro k0.c0 (And.intro k0.c1 k0.c2)) (And.intro kp.1 kp.2.1)) | (go_at_call 12; refine (spec_solve xa1 xa2 xa3 lp0 ya1 lq0 ya2 lr0 ya3 l lo hi x1 y1 _ h1.out h2.out h3.out (by omega) ma.out.row).mono ?_; rintro e w2 hq; rw [hL.out] at hq; obtain ⟨xw, yw, rfl, mw, q⟩ := ints_view hn.out hq; have z2 := q.size; replace hT := Lib.hid (hT.out.later q); replace hr := Lib.hid (hr.out.after q); replace bb := Lib.hid (bel_after bb.out q); replace k0 := k0.after q; replace kp := kp.after q; replace ma := Lib.hid (ma.out.after q); clear q hq s; replace mw := Lib.hid mw; have s := And.intro (And.intro k0.c0 (And.intro k0.c1 k0.c2)) (And.intro kp.1 kp.2.1)))
    clear s
    clear ma
    have hX : w.heap.size < w2.heap.size := k0.lt
    have hX1 : w.heap.size + 1 < w2.heap.size := kp.2.2.2.2
    have hwX := Lib.hid (mw.out.own_lt (Nat.le_refl _))
    obtain ⟨k0x, k0y, k0z, k0u, k0v, k0w⟩ := id k0
    go_wp2_with fail
    clear k0x k0y k0z k0u k0v k0w
    refine (to_arm p0 q0 r0 lp0 cp0 lq0 cq0 lr0 cr0 l lo hi _ h1.out h2.out h3.out (by omega) (by omega) (by omega) hr.out).mono ?_
    rintro e w3 ⟨xb1, yb1, xb2, yb2, xb3, yb3, rfl, mb, q⟩
    have z3 := q.size
    replace hT := Lib.hid (hT.out.later q)
    replace hr := Lib.hid (hr.out.after q)
    replace bb := Lib.hid (bel_after bb.out q)
    replace k0 := k0.after q
    replace kp := kp.after q
    replace mw := Lib.hid (mw.out.after q)
    clear q
    replace mb := Lib.hid mb
    obtain ⟨k0x, k0y, k0z, k0u, k0v, k0w⟩ := id k0
    go_upto_region 7 with fail
    clear k0x k0y k0z k0u k0v k0w
    have k1 := Cell3.new w3 (.slice xb1 lp0 yb1) (.slice xb2 lq0 yb2) (.slice xb3 lr0 yb3) 25
    have zv := (bel_new w3 (.cells #[.slice xb1 lp0 yb1, .slice xb2 lq0 yb2, .slice xb3 lr0 yb3] 25)).size
    replace hT := Lib.hid (hT.out.later (bel_new w3 (.cells #[.slice xb1 lp0 yb1, .slice xb2 lq0 yb2, .slice xb3 lr0 yb3] 25)))
    replace hr := Lib.hid (hr.out.after (bel_new w3 (.cells #[.slice xb1 lp0 yb1, .slice xb2 lq0 yb2, .slice xb3 lr0 yb3] 25)))
    replace bb := Lib.hid (bel_after bb.out (bel_new w3 (.cells #[.slice xb1 lp0 yb1, .slice xb2 lq0 yb2, .slice xb3 lr0 yb3] 25)))
    replace k0 := k0.after (bel_new w3 (.cells #[.slice xb1 lp0 yb1, .slice xb2 lq0 yb2, .slice xb3 lr0 yb3] 25))
    replace kp := kp.after (bel_new w3 (.cells #[.slice xb1 lp0 yb1, .slice xb2 lq0 yb2, .slice xb3 lr0 yb3] 25))
    replace mw := Lib.hid (mw.out.after (bel_new w3 (.cells #[.slice xb1 lp0 yb1, .slice xb2 lq0 yb2, .slice xb3 lr0 yb3] 25)))
    replace mb := Lib.hid (mb.out.after (bel_new w3 (.cells #[.slice xb1 lp0 yb1, .slice xb2 lq0 yb2, .slice xb3 lr0 yb3] 25)))
    generalize hK : w3.heap.size = K1 at k1 ⊢
    clear hK
    generalize w3.alloc (.cells #[.slice xb1 lp0 yb1, .slice xb2 lq0 yb2, .slice xb3 lr0 yb3] 25) = v at *
    obtain ⟨w4, rfl⟩ : ∃ u : World, u = v := ⟨_, rfl⟩
    have hyb := Lib.hid (mb.out.own_lt (Nat.le_refl w4.heap.size))
    have hK1 : K1 < w4.heap.size := k1.lt
    have hGz : w4.heap.size ≤ w4.heap.size := by omega
    obtain ⟨k0x, k0y, k0z, k0u, k0v, k0w⟩ := id k0
    obtain ⟨k1x, k1y, k1z, k1u, k1v, k1w⟩ := id k1
    obtain ⟨kpx, kpy, kpz, kpu, kpv⟩ := id kp
    go_wp2_with fail
    clear k0x k0y k0z k0u k0v k0w k1x k1y k1z k1u k1v k1w kpx kpy kpz kpu kpv
    have _tok := True.intro
    replace hT := Lib.hid (hT.out.later (bel_drew _))
    replace hr := Lib.hid (hr.out.after (bel_drew _))
    replace bb := Lib.hid (bel_after bb.out (bel_drew _))
    replace k0 := k0.after (bel_drew _)
    replace kp := kp.after (bel_drew _)
    replace mw := Lib.hid (mw.out.after (bel_drew _))
    replace mb := Lib.hid (mb.out.after (bel_drew _))
    replace k1 := k1.after (bel_drew _)
    have zdr4 : w4.heap.size ≤ w4.drew.heap.size := Nat.le_refl _
    have s := And.intro (And.intro k1.c0 (And.intro k1.c1 k1.c2)) (And.intro kp.1 kp.2.1)
    go_region_held3 (fun w' => (w'.cell? ⟨K1, 0, none⟩ = some (.slice xb1 lp0 yb1) ∧ w'.cell? ⟨K1, 1, none⟩ = some (.slice xb2 lq0 yb2) ∧ w'.cell? ⟨K1, 2, none⟩ = some (.slice xb3 lr0 yb3)) ∧ (w'.cell? ⟨w.heap.size + 1, 0, none⟩ = some (.int .i64 x1) ∧ w'.cell? ⟨w.heap.size + 1, 1, none⟩ = some (.int .i64 y1))) (first | (with_reducible assumption) | go_keep) (first | (go_at_call 20; refine (to_point x1 y1 _).mono ?_; rintro e wd3 ⟨rfl, q⟩; have zq3 := q.size; replace hT := Lib.hid (hT.out.later q); replace hr := Lib.hid (hr.out.after q); replace bb := Lib.hid (bel_after bb.out q); replace k0 := k0.after q; replace kp := kp.after q; replace mw := Lib.hid (mw.out.after q); replace mb := Lib.hid (mb.out.after q); replace k1 := k1.after q; clear q s; have s := And.intro (And.intro k1.c0 (And.intro k1.c1 k1.c2)) (And.intro kp.1 kp.2.1)) | (go_at_call 10; refine (impl_solve xb1 xb2 xb3 lp0 yb1 lq0 yb2 lr0 yb3 l lo hi x1 y1 _ hT.out h1.out h2.out h3.out (by omega) mb.out.row).mono ?_; rintro e w5 hq; rw [hL.out] at hq; obtain ⟨xg, yg, rfl, mg, q⟩ := ints_view hn.out hq; have z5 := q.size; replace hT := Lib.hid (hT.out.later q); replace hr := Lib.hid (hr.out.after q); replace bb := Lib.hid (bel_after bb.out q); replace k0 := k0.after q; replace kp := kp.after q; replace mw := Lib.hid (mw.out.after q); replace mb := Lib.hid (mb.out.after q); replace k1 := k1.after q; clear q hq s; replace mg := Lib.hid mg; have s := And.intro (And.intro k1.c0 (And.intro k1.c1 k1.c2)) (And.intro kp.1 kp.2.1)))
    clear s
    have hgG := Lib.hid (mg.out.own_ge)
    obtain ⟨k0x, k0y, k0z, k0u, k0v, k0w⟩ := id k0
    obtain ⟨k1x, k1y, k1z, k1u, k1v, k1w⟩ := id k1
    go_wp2_with fail
    clear k0x k0y k0z k0u k0v k0w k1x k1y k1z k1u k1v k1w
    refine (eq_ints_yes xg xw nL yg yw L _ hn.out hnb mg.out.row mw.out.row).mono ?_
    rintro e w6 ⟨rfl, q⟩
    have z6 := q.size
    replace hT := Lib.hid (hT.out.later q)
    replace hr := Lib.hid (hr.out.after q)
    replace bb := Lib.hid (bel_after bb.out q)
    replace k0 := k0.after q
    replace kp := kp.after q
    replace mw := Lib.hid (mw.out.after q)
    replace mb := Lib.hid (mb.out.after q)
    replace k1 := k1.after q
    replace mg := Lib.hid (mg.out.after q)
    clear q
    obtain ⟨k0x, k0y, k0z, k0u, k0v, k0w⟩ := id k0
    obtain ⟨k1x, k1y, k1z, k1u, k1v, k1w⟩ := id k1
    go_wp2_with fail
    clear k0x k0y k0z k0u k0v k0w k1x k1y k1z k1u k1v k1w
    have _tok := True.intro
    replace hT := Lib.hid (hT.out.later (bel_drew _))
    replace hr := Lib.hid (hr.out.after (bel_drew _))
    replace bb := Lib.hid (bel_after bb.out (bel_drew _))
    replace k0 := k0.after (bel_drew _)
    replace kp := kp.after (bel_drew _)
    replace mw := Lib.hid (mw.out.after (bel_drew _))
    replace mb := Lib.hid (mb.out.after (bel_drew _))
    replace k1 := k1.after (bel_drew _)
    replace mg := Lib.hid (mg.out.after (bel_drew _))
    have s := And.intro (And.intro k0.c0 (And.intro k0.c1 k0.c2)) (And.intro k1.c0 (And.intro k1.c1 k1.c2))
    go_region_held3 (fun w' => (w'.cell? ⟨w.heap.size, 0, none⟩ = some (.slice p0 lp0 cp0) ∧ w'.cell? ⟨w.heap.size, 1, none⟩ = some (.slice q0 lq0 cq0) ∧ w'.cell? ⟨w.heap.size, 2, none⟩ = some (.slice r0 lr0 cr0)) ∧ (w'.cell? ⟨K1, 0, none⟩ = some (.slice xb1 lp0 yb1) ∧ w'.cell? ⟨K1, 1, none⟩ = some (.slice xb2 lq0 yb2) ∧ w'.cell? ⟨K1, 2, none⟩ = some (.slice xb3 lr0 yb3))) (first | (with_reducible assumption) | go_keep) (first | (go_at_call 19; refine (to_arm p0 q0 r0 lp0 cp0 lq0 cq0 lr0 cr0 l lo hi _ h1.out h2.out h3.out (by omega) (by omega) (by omega) hr.out).mono ?_; rintro e wa ⟨xe1, ye1, xe2, ye2, xe3, ye3, rfl, me, q⟩; replace hT := Lib.hid (hT.out.later q); replace hr := Lib.hid (hr.out.after q); replace bb := Lib.hid (bel_after bb.out q); replace k0 := k0.after q; replace kp := kp.after q; replace mw := Lib.hid (mw.out.after q); replace mb := Lib.hid (mb.out.after q); replace k1 := k1.after q; replace mg := Lib.hid (mg.out.after q); replace me := Lib.hid me; clear q s; have s := And.intro (And.intro k0.c0 (And.intro k0.c1 k0.c2)) (And.intro k1.c0 (And.intro k1.c1 k1.c2))) | (go_at_call 22; refine (eq_arm_yes xb1 xb2 xb3 xe1 xe2 xe3 lp0 lq0 lr0 yb1 yb2 yb3 ye1 ye2 ye3 l lo hi _ h1.out h2.out h3.out (by omega) mb.out.row me.out.row).mono ?_; rintro e wb ⟨rfl, q⟩; replace hT := Lib.hid (hT.out.later q); replace hr := Lib.hid (hr.out.after q); replace bb := Lib.hid (bel_after bb.out q); replace k0 := k0.after q; replace kp := kp.after q; replace mw := Lib.hid (mw.out.after q); replace mb := Lib.hid (mb.out.after q); replace k1 := k1.after q; replace mg := Lib.hid (mg.out.after q); clear q s me; have s := And.intro (And.intro k0.c0 (And.intro k0.c1 k0.c2)) (And.intro k1.c0 (And.intro k1.c1 k1.c2))))
    clear s
    obtain ⟨k0x, k0y, k0z, k0u, k0v, k0w⟩ := id k0
    obtain ⟨k1x, k1y, k1z, k1u, k1v, k1w⟩ := id k1
    go_wp2_with fail
    clear k0x k0y k0z k0u k0v k0w k1x k1y k1z k1u k1v k1w
    refine (mark_arm (fun i => w2.heap.size ≤ i ∧ i < w4.heap.size) xb1 xb2 xb3 lp0 lq0 lr0 yb1 yb2 yb3 _ l lo hi 1 _ h1.out h2.out h3.out (by omega) (by omega) mb.out (fun i hi => hyb.out.1 i hi) (fun i hi => hyb.out.2.1 i hi) (fun i hi => hyb.out.2.2 i hi)).mono ?_
    rintro e w7 ⟨rfl, hk⟩
    have z7 := hk.size
    replace bb := Lib.hid (hk.bel bb.out (by rintro i ⟨h2, h3⟩; omega))
    replace hr := Lib.hid (hrw.out.after bb.out)
    replace hT := Lib.hid (hTw.out.later bb.out)
    replace k0 := k0.keptBy hk (by rintro ⟨h2, h3⟩; omega)
    replace kp := slotKept kp hk (by rintro ⟨h2, h3⟩; omega)
    replace mw := Lib.hid (mw.out.keptAt hk (fun i hi => by have h1 := (hwX.out i hi).2; rintro ⟨h2, h3⟩; omega))
    replace mg := Lib.hid (mg.out.keptAt hk (fun i hi => by have h1 := hgG.out i hi; rintro ⟨h2, h3⟩; omega))
    clear hk
    clear mb k1
    have hp : (0 : Int) ≤ 1 + lp0 + lq0 + lr0 := by omega
    obtain ⟨k0x, k0y, k0z, k0u, k0v, k0w⟩ := id k0
    go_wp2_with fail
    clear k0x k0y k0z k0u k0v k0w
    refine (eq_ints_yes xg xw nL yg yw L _ hn.out hnb mg.out.row mw.out.row).mono ?_
    rintro e w8 ⟨rfl, q⟩
    have z8 := q.size
    replace hT := Lib.hid (hT.out.later q)
    replace hr := Lib.hid (hr.out.after q)
    replace bb := Lib.hid (bel_after bb.out q)
    replace k0 := k0.after q
    replace kp := kp.after q
    replace mw := Lib.hid (mw.out.after q)
    replace mg := Lib.hid (mg.out.after q)
    clear q
    obtain ⟨k0x, k0y, k0z, k0u, k0v, k0w⟩ := id k0
    go_wp2_with fail
    clear k0x k0y k0z k0u k0v k0w
    refine (mark_ints xg yg L 1 nL _ _ hn.out hnb (by omega) (by omega) mg.out).mono ?_
    rintro e w9 ⟨rfl, mg2, hk⟩
    replace hk := Kept.of_belowB hk
    have z9 := hk.size
    replace bb := Lib.hid (hk.bel bb.out (by intro i h2; omega))
    replace hr := Lib.hid (hrw.out.after bb.out)
    replace hT := Lib.hid (hTw.out.later bb.out)
    replace k0 := k0.keptBy hk (by omega)
    replace kp := slotKept kp hk (by omega)
    replace mw := Lib.hid (mw.out.keptAt hk (fun i hi => by have h1 := (hwX.out i hi).2; omega))
    clear hk
    clear mg
    replace mg2 := Lib.hid mg2
    obtain ⟨k0x, k0y, k0z, k0u, k0v, k0w⟩ := id k0
    go_wp2_with fail
    clear k0x k0y k0z k0u k0v k0w
    refine (held_ints xg yg 1 nL _ hnb (by omega) (by omega) mg2.out.row).mono ?_
    rintro e w' ⟨rfl, rfl⟩
    have hp2 : (0 : Int) ≤ 1 + nL := by omega
    obtain ⟨k0x, k0y, k0z, k0u, k0v, k0w⟩ := id k0
    obtain ⟨kpx, kpy, kpz, kpu, kpv⟩ := id kp
    go_wp2_with fail
    clear k0x k0y k0z k0u k0v k0w kpx kpy kpz kpu kpv
    have _tok := True.intro
    replace hT := Lib.hid (hT.out.later (bel_drew _))
    replace hr := Lib.hid (hr.out.after (bel_drew _))
    replace bb := Lib.hid (bel_after bb.out (bel_drew _))
    replace k0 := k0.after (bel_drew _)
    replace kp := kp.after (bel_drew _)
    replace mw := Lib.hid (mw.out.after (bel_drew _))
    replace mg2 := Lib.hid (mg2.out.after (bel_drew _))
    have zdr9 : w9.heap.size ≤ w9.drew.heap.size := Nat.le_refl _
    have s := And.intro (And.intro k0.c0 (And.intro k0.c1 k0.c2)) (And.intro kp.1 kp.2.1)
    go_region_held3 (fun w' => (w'.cell? ⟨w.heap.size, 0, none⟩ = some (.slice p0 lp0 cp0) ∧ w'.cell? ⟨w.heap.size, 1, none⟩ = some (.slice q0 lq0 cq0) ∧ w'.cell? ⟨w.heap.size, 2, none⟩ = some (.slice r0 lr0 cr0)) ∧ (w'.cell? ⟨w.heap.size + 1, 0, none⟩ = some (.int .i64 x1) ∧ w'.cell? ⟨w.heap.size + 1, 1, none⟩ = some (.int .i64 y1))) (first | (with_reducible assumption) | go_keep) (first | (go_at_call 19; refine (to_arm p0 q0 r0 lp0 cp0 lq0 cq0 lr0 cr0 l lo hi _ h1.out h2.out h3.out (by omega) (by omega) (by omega) hr.out).mono ?_; rintro e wd1 ⟨xd1, yd1, xd2, yd2, xd3, yd3, rfl, md, q⟩; have zq1 := q.size; replace hT := Lib.hid (hT.out.later q); replace hr := Lib.hid (hr.out.after q); replace bb := Lib.hid (bel_after bb.out q); replace k0 := k0.after q; replace kp := kp.after q; replace mw := Lib.hid (mw.out.after q); replace mg2 := Lib.hid (mg2.out.after q); replace md := Lib.hid md; clear q s; have s := And.intro (And.intro k0.c0 (And.intro k0.c1 k0.c2)) (And.intro kp.1 kp.2.1)) | (go_at_call 20; refine (to_point x1 y1 _).mono ?_; rintro e wd3 ⟨rfl, q⟩; have zq3 := q.size; replace hT := Lib.hid (hT.out.later q); replace hr := Lib.hid (hr.out.after q); replace bb := Lib.hid (bel_after bb.out q); replace k0 := k0.after q; replace kp := kp.after q; replace mw := Lib.hid (mw.out.after q); replace mg2 := Lib.hid (mg2.out.after q); replace md := Lib.hid (md.out.after q); clear q s; have s := And.intro (And.intro k0.c0 (And.intro k0.c1 k0.c2)) (And.intro kp.1 kp.2.1)) | (go_at_call 10; refine (impl_solve xd1 xd2 xd3 lp0 yd1 lq0 yd2 lr0 yd3 l lo hi x1 y1 _ hT.out h1.out h2.out h3.out (by omega) md.out.row).mono ?_; rintro e w10 hq; rw [hL.out] at hq; obtain ⟨xh, yh, rfl, mh, q⟩ := ints_view hn.out hq; have z10 := q.size; replace hT := Lib.hid (hT.out.later q); replace hr := Lib.hid (hr.out.after q); replace bb := Lib.hid (bel_after bb.out q); replace k0 := k0.after q; replace kp := kp.after q; replace mw := Lib.hid (mw.out.after q); replace mg2 := Lib.hid (mg2.out.after q); replace md := Lib.hid (md.out.after q); clear q hq s; replace mh := Lib.hid mh; have s := And.intro (And.intro k0.c0 (And.intro k0.c1 k0.c2)) (And.intro kp.1 kp.2.1)))
    clear s
    go_wp2_with fail
    refine (eq_ints_yes xh xw nL yh yw L _ hn.out hnb mh.out.row mw.out.row).mono ?_
    rintro e w11 ⟨rfl, q⟩
    have z11 := q.size
    replace hT := Lib.hid (hT.out.later q)
    replace hr := Lib.hid (hr.out.after q)
    replace bb := Lib.hid (bel_after bb.out q)
    replace k0 := k0.after q
    replace kp := kp.after q
    replace mw := Lib.hid (mw.out.after q)
    replace mg2 := Lib.hid (mg2.out.after q)
    replace md := Lib.hid (md.out.after q)
    replace mh := Lib.hid (mh.out.after q)
    clear q
    go_wp2_with fail
    refine (held_ints xg yg 1 nL _ hnb (by omega) (by omega) mg2.out.row).mono ?_
    rintro e w' ⟨rfl, rfl⟩
    go_wp2_with fail
    go_ret
    exact ⟨rfl, bb.out⟩
  · go_enter Tryd.func4, Tryd.ntmps4
    obtain ⟨k0x, k0y, k0z, k0u, k0v, k0w⟩ := id k0
    go_wp2_with fail
    clear k0x k0y k0z k0u k0v k0w
    refine (sz_arm_no p0 q0 r0 lp0 cp0 lq0 cq0 lr0 cr0 _ g1 g2 g3 hsz).mono ?_
    rintro e w12 ⟨rfl, q⟩
    have z12 := q.size
    replace hT := Lib.hid (hT.out.later q)
    replace hr := Lib.hid (hr.out.after q)
    replace bb := Lib.hid (bel_after bb.out q)
    replace k0 := k0.after q
    replace kp := kp.after q
    clear q
    obtain ⟨k0x, k0y, k0z, k0u, k0v, k0w⟩ := id k0
    go_wp2_with fail
    clear k0x k0y k0z k0u k0v k0w
    go_ret
    exact ⟨rfl, bb.out⟩
theorem own : ownKnob Tryd.prog.godebug = none := by kernel_rfl
theorem laidOut : laidOutB Tryd.prog = true := by kernel_rfl
theorem cellsPt : Tryd.prog.cellsOf 40 = 2 := by kernel_rfl
theorem cellsArm : Tryd.prog.cellsOf 39 = 3 := by kernel_rfl
set_option maxRecDepth 100000 in
theorem lifted (os : Os) (started : os.Started) (H : Type) (enc : TypeId × Value → H) :
    ReturnsInHanded {} Tryd.checked os 4 .any (fun w args => (Rows.fnExactSolveArmSpec.pre enc Tryd.prog Tryd.f4 [] false w args ∧ laidMetH Tryd.prog laid3 w) ∧ sizedMet enc Tryd.prog Tryd.f4 (OpenSpec.ofChange Rows.fnExactSolveArmSpec) false w args)
      (Rows.fnExactSolveArmSpec.post enc Tryd.prog Tryd.f4 false true false false) := by
  refine returnsInHanded_of_change_and (C := Tryd.checked) (X := fun w _ => laidMetH Tryd.prog laid3 w) (fun _ _ _ hh h => h.of_heap hh) own started (by kernel_rfl) Tryd.func4
    (ChangeSpec.witness_shaped (enc := enc) (C := Tryd.checked) (os := os) (X := fun w _ => laidMetH Tryd.prog laid3 w) false (World.doorLaid Tryd.prog 24 os) #[.agg #[.slice none 0 0, .slice none 0 0, .slice none 0 0], .agg #[.int .i64 0, .int .i64 0]] 8 rfl (World.shaped_of_RefB (by kernel_rfl) (by kernel_rfl)) (by kernel_rfl) (by kernel_rfl) (by kernel_rfl) (door_met os _)) ?_
  intro W base args ds gs before hval0 hW _ _ hL _
  have hval : ∀ (j : Nat) t v, Tryd.f4.params[j]? = some t → args[j]? = some v → Value.okWide Tryd.prog W .any base t v := hval0
  have hW' := hW
  obtain ⟨p, q, hA0, hV, rfl, hfz, hnd⟩ := hW
  have hA : DataW.TrodAll enc Tryd.prog W 0 (fun _ => true) true Tryd.f4.params.toList args.toList ds p := hA0
  rw [Tryd.params4] at hA hval
  obtain ⟨v0_, vs0, d0, ds0, p0, q0, hargs, rfl, rfl, h0, r0⟩ := trodAll_cons hA
  obtain ⟨v1_, vs1, d1, ds1, p1, q1, rfl, rfl, rfl, h1, r1⟩ := trodAll_cons r0
  obtain ⟨rfl, rfl, rfl⟩ := trodAll_nil r1
  obtain rfl : args = #[v0_, v1_] := by cases args; simp_all
  obtain ⟨rfl, rfl⟩ := trodVars_none hV
  have k0 := h0
  have lt0 : ∀ x ∈ p0, x.block < W.heap.size := by obtain ⟨m, hm⟩ := k0; exact DataW.trod_lt m _ _ _ hm
  obtain ⟨fa0, fb0, fc0, ya0, yb0, yc0, m0, rfl, hd0, hp0, ea0, eb0, ec0⟩ := Go.Joins.open_agg3 Tryd.underlying39 (by kernel_rfl) cellsArm (hval 0 39 v0_ rfl rfl) h0
  obtain ⟨p0_, lp0, cp0, zp0, rfl, wp0⟩ := open_row Tryd.underlying23 Tryd.underlying3 (by kernel_rfl) ea0
  obtain ⟨q0_, lq0, cq0, zq0, rfl, wq0⟩ := open_row Tryd.underlying23 Tryd.underlying3 (by kernel_rfl) eb0
  obtain ⟨r0_, lr0, cr0, zr0, rfl, wt0⟩ := open_row Tryd.underlying23 Tryd.underlying3 (by kernel_rfl) ec0
  have k1 := h1
  have lt1 : ∀ x ∈ p1, x.block < W.heap.size := by obtain ⟨m, hm⟩ := k1; exact DataW.trod_lt m _ _ _ hm
  obtain ⟨c1, g1, ya1, yb1, m1, rfl, rfl, rfl, hya1, hyb1⟩ := Go.Joins.open_agg2 Tryd.underlying40 (by kernel_rfl) cellsPt (hval 1 40 v1_ rfl rfl) h1
  obtain ⟨x1, ea1, rfl, u1⟩ := DataW.trod_int Tryd.underlying3 hya1
  obtain ⟨y1, eb1, rfl, v1⟩ := DataW.trod_int Tryd.underlying3 hyb1
  simp at ea1 eb1
  subst ea1 eb1
  clear hA0 hval0
  refine (walk p0_ q0_ r0_ lp0 cp0 lq0 cq0 lr0 cr0 zp0 zq0 zr0 x1 y1 W wp0 wq0 wt0 u1 v1 (of_laid hL)).mono fun e W' ⟨he, bel⟩ => ?_
  subst he
  exact ⟨_, rfl, _, _, _, [], _, [], hW', trodAll_mk1 (shut_bool Tryd.underlying4 _), (trodAll_cons_mk (Below.trod laidOut (by kernel_rfl) (of_decide_eq_true (by kernel_rfl)) k0 bel lt0) (trodAll_cons_mk (Below.trod laidOut (by kernel_rfl) (of_decide_eq_true (by kernel_rfl)) k1 bel lt1) trodAll_mk0)), rfl, bel.frame _, fun h => by cases h⟩
theorem over : Rows.FnExactSolveArmSaid :=
  OpenClaim.holds_of_wide 4 Tryd.f4 rfl rfl rfl rfl rfl rfl rfl ⟨rfl, rfl, rfl, rfl, rfl⟩ rfl rfl rfl rfl rfl (by kernel_rfl) Tryd.func4 (by kernel_rfl)
    (of_decide_eq_true (by kernel_rfl)) (by unfold Func.isWrapper; first | (rw [if_pos (by decide +kernel)]; kernel_rfl) | (rw [if_neg (by decide +kernel)]; exact ⟨rfl, rfl⟩))
    (fun os started H enc _ => lifted os started H enc)
theorem proved : Rows.FnExactSolveArmCardSaid :=
  Claim7.holds_tied_plain_at .later [] [.data, .data, .data] true (true, "93a7d8943fba560fcf8c7ca76f507c19b15707da8092a46e0532a4902c1ccc6d") false
    over (fun _ h => by cases h) (by kernel_rfl) (fun _ h => by cases h) fnExactSolveArm_row_tie rfl ⟨rfl, rfl⟩ (by kernel_rfl) rfl
    (fun f fn hf hfn => by
      obtain rfl : f = 4 := Option.some.inj ((show Tryd.prog.funcNamed "loop.example/robotcell/laws.FnExactSolveArm" = some 4 by kernel_rfl).symm.trans hf) |>.symm
      obtain rfl : fn = Tryd.f4 := (Option.some.inj (Tryd.func4.symm.trans hfn)).symm
      exact ⟨by kernel_rfl, fun j t ht => by
        rw [Tryd.params4] at ht
        have hm : t ∈ [39, 40] := by simpa using Array.mem_of_getElem? ht
        have hall : ([39, 40].all fun u => !Tryd.prog.wantsStandIn u) = true := by kernel_rfl
        exact (show Tryd.prog.wantsStandIn t = false by simpa using List.all_eq_true.1 hall t hm)⟩)
    (by kernel_rfl)
#print axioms proved
end Go.Proofs.YtmainffjekjlnaaDoor.fnExactSolveArm
