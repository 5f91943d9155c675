/- Proves that the law FnExactReachOf returns true for every input. Conditions: none. -/
import Derived.Test.YtnkjnphmpembaaaRows
import Derived.Test.YtnkjnphmpembaaaReach
import Derived.Test.YtnkjnphmpembaaaArmEq
import Derived.ChangeOld
import Derived.ShutString
import Derived.Lib.SmallJoins
import Derived.Deep.RegionHeld3
namespace Go.Proofs.Ytnkjnphmpembaaa.fnExactReachOf
open Go.ChangeShapes Go.WideShapes Go.ChangeAt Go.RowKit
set_option linter.unusedVariables false
set_option maxHeartbeats 4000000 in
theorem walk (p0 q0 r0 : Option Addr) (lp0 cp0 lq0 cq0 lr0 cr0 : Nat) (zp0 zq0 zr0 : List Int) (w : World) (wp0 : IsRow .i64 w p0 lp0 cp0 zp0) (wq0 : IsRow .i64 w q0 lq0 cq0 zq0) (wt0 : IsRow .i64 w r0 lr0 cr0 zr0) :
    Calls Try.prog 6 #[.agg #[.slice p0 lp0 cp0, .slice q0 lq0 cq0, .slice r0 lr0 cr0]] w fun e w' => e = .returned (.bool true) ∧ Below w.heap.size w w' := by
  obtain ⟨l, lo, hi, ⟨h1, h2, h3⟩, hr⟩ := ArmAt.of_rows wp0 wq0 wt0
  have g1 := wp0.size
  have g2 := wq0.size
  have g3 := wt0.size
  replace hr := Lib.hid (show ArmAt w w.heap.size p0 q0 r0 l lo hi from hr)
  clear wp0 wq0 wt0
  replace h1 := Lib.hid h1
  replace h2 := Lib.hid h2
  replace h3 := Lib.hid h3
  have bb := Lib.hid (Below.refl w.heap.size w)
  have k0 := Cell3.new (w) (.slice p0 lp0 cp0) (.slice q0 lq0 cq0) (.slice r0 lr0 cr0) 30
  replace hr := Lib.hid (hr.out.after (bel_new (w) (.cells #[.slice p0 lp0 cp0, .slice q0 lq0 cq0, .slice r0 lr0 cr0] 30)))
  replace bb := Lib.hid (bel_after bb.out (bel_new (w) (.cells #[.slice p0 lp0 cp0, .slice q0 lq0 cq0, .slice r0 lr0 cr0] 30)))
  have hv0 : True := trivial
  by_cases hsz : lp0 + lq0 + lr0 ≤ 1048576
  · go_enter Try.func6, Try.ntmps6
    obtain ⟨k0x, k0y, k0z, k0u, k0v, k0w⟩ := id k0
    go_wp2_with fail
    clear k0x k0y k0z k0u k0v k0w
    refine (sz_arm_yes p0 q0 r0 lp0 cp0 lq0 cq0 lr0 cr0 _ hsz).mono ?_
    rintro e w1 ⟨rfl, q⟩
    replace hr := Lib.hid (hr.out.after q)
    replace bb := Lib.hid (bel_after bb.out q)
    replace k0 := k0.after q
    clear q
    have hz : (0 : Int) ≤ 1048576 - lp0 - lq0 - lr0 := by omega
    obtain ⟨k0x, k0y, k0z, k0u, k0v, k0w⟩ := id k0
    go_wp2_with fail
    clear k0x k0y k0z k0u k0v k0w
    refine (to_arm p0 q0 r0 lp0 cp0 lq0 cq0 lr0 cr0 l lo hi _ h1.out h2.out h3.out (by omega) (by omega) (by omega) hr.out).mono ?_
    rintro e w2 ⟨xa1, ya1, xa2, ya2, xa3, ya3, rfl, ma, q⟩
    replace hr := Lib.hid (hr.out.after q)
    replace bb := Lib.hid (bel_after bb.out q)
    replace k0 := k0.after q
    clear q
    replace ma := Lib.hid ma
    obtain ⟨k0x, k0y, k0z, k0u, k0v, k0w⟩ := id k0
    go_wp2_with fail
    clear k0x k0y k0z k0u k0v k0w
    refine (spec_reach xa1 xa2 xa3 lp0 ya1 lq0 ya2 lr0 ya3 l lo hi _ h1.out h2.out h3.out (by omega) ma.out.row).mono ?_
    rintro e w3 ⟨rfl, q⟩
    replace hr := Lib.hid (hr.out.after q)
    replace bb := Lib.hid (bel_after bb.out q)
    replace k0 := k0.after q
    replace ma := Lib.hid (ma.out.after q)
    clear q
    clear ma
    obtain ⟨k0x, k0y, k0z, k0u, k0v, k0w⟩ := id k0
    go_wp2_with fail
    clear k0x k0y k0z k0u k0v k0w
    refine (to_arm p0 q0 r0 lp0 cp0 lq0 cq0 lr0 cr0 l lo hi _ h1.out h2.out h3.out (by omega) (by omega) (by omega) hr.out).mono ?_
    rintro e w4 ⟨xb1, yb1, xb2, yb2, xb3, yb3, rfl, mb, q⟩
    replace hr := Lib.hid (hr.out.after q)
    replace bb := Lib.hid (bel_after bb.out q)
    replace k0 := k0.after q
    clear q
    replace mb := Lib.hid mb
    obtain ⟨k0x, k0y, k0z, k0u, k0v, k0w⟩ := id k0
    go_wp2_with fail
    clear k0x k0y k0z k0u k0v k0w
    have k1 := Cell3.new w4 (.slice xb1 lp0 yb1) (.slice xb2 lq0 yb2) (.slice xb3 lr0 yb3) 25
    replace hr := Lib.hid (hr.out.after (bel_new w4 (.cells #[.slice xb1 lp0 yb1, .slice xb2 lq0 yb2, .slice xb3 lr0 yb3] 25)))
    replace bb := Lib.hid (bel_after bb.out (bel_new w4 (.cells #[.slice xb1 lp0 yb1, .slice xb2 lq0 yb2, .slice xb3 lr0 yb3] 25)))
    replace k0 := k0.after (bel_new w4 (.cells #[.slice xb1 lp0 yb1, .slice xb2 lq0 yb2, .slice xb3 lr0 yb3] 25))
    replace mb := Lib.hid (mb.out.after (bel_new w4 (.cells #[.slice xb1 lp0 yb1, .slice xb2 lq0 yb2, .slice xb3 lr0 yb3] 25)))
    generalize hK : w4.heap.size = K1 at k1 ⊢
    clear hK
    generalize w4.alloc (.cells #[.slice xb1 lp0 yb1, .slice xb2 lq0 yb2, .slice xb3 lr0 yb3] 25) = v at *
    refine (impl_reach xb1 xb2 xb3 lp0 yb1 lq0 yb2 lr0 yb3 l lo hi _ h1.out h2.out h3.out (by omega) mb.out.row).mono ?_
    rintro e w5 ⟨rfl, q⟩
    replace hr := Lib.hid (hr.out.after q)
    replace bb := Lib.hid (bel_after bb.out q)
    replace k0 := k0.after q
    replace mb := Lib.hid (mb.out.after q)
    replace k1 := k1.after q
    clear q
    obtain ⟨k0x, k0y, k0z, k0u, k0v, k0w⟩ := id k0
    obtain ⟨k1x, k1y, k1z, k1u, k1v, k1w⟩ := id k1
    go_wp2_with fail
    clear k0x k0y k0z k0u k0v k0w k1x k1y k1z k1u k1v k1w
    have _tok := True.intro
    replace hr := Lib.hid (hr.out.after (bel_drew _))
    replace bb := Lib.hid (bel_after bb.out (bel_drew _))
    replace k0 := k0.after (bel_drew _)
    replace mb := Lib.hid (mb.out.after (bel_drew _))
    replace k1 := k1.after (bel_drew _)
    have s := And.intro (And.intro k0.c0 (And.intro k0.c1 k0.c2)) (And.intro k1.c0 (And.intro k1.c1 k1.c2))
    go_region_held3 (fun w' => (w'.cell? ⟨w.heap.size, 0, none⟩ = some (.slice p0 lp0 cp0) ∧ w'.cell? ⟨w.heap.size, 1, none⟩ = some (.slice q0 lq0 cq0) ∧ w'.cell? ⟨w.heap.size, 2, none⟩ = some (.slice r0 lr0 cr0)) ∧ (w'.cell? ⟨K1, 0, none⟩ = some (.slice xb1 lp0 yb1) ∧ w'.cell? ⟨K1, 1, none⟩ = some (.slice xb2 lq0 yb2) ∧ w'.cell? ⟨K1, 2, none⟩ = some (.slice xb3 lr0 yb3))) (first | (with_reducible assumption) | go_keep) (first | (go_at_call 18; refine (to_arm p0 q0 r0 lp0 cp0 lq0 cq0 lr0 cr0 l lo hi _ h1.out h2.out h3.out (by omega) (by omega) (by omega) hr.out).mono ?_; rintro e wa ⟨xe1, ye1, xe2, ye2, xe3, ye3, rfl, me, q⟩; replace hr := Lib.hid (hr.out.after q); replace bb := Lib.hid (bel_after bb.out q); replace k0 := k0.after q; replace mb := Lib.hid (mb.out.after q); replace k1 := k1.after q; replace me := Lib.hid me; clear q s; have s := And.intro (And.intro k0.c0 (And.intro k0.c1 k0.c2)) (And.intro k1.c0 (And.intro k1.c1 k1.c2))) | (go_at_call 19; refine (eq_arm_yes xb1 xb2 xb3 xe1 xe2 xe3 lp0 lq0 lr0 yb1 yb2 yb3 ye1 ye2 ye3 l lo hi _ h1.out h2.out h3.out (by omega) mb.out.row me.out.row).mono ?_; rintro e wb ⟨rfl, q⟩; replace hr := Lib.hid (hr.out.after q); replace bb := Lib.hid (bel_after bb.out q); replace k0 := k0.after q; replace mb := Lib.hid (mb.out.after q); replace k1 := k1.after q; clear q s me; have s := And.intro (And.intro k0.c0 (And.intro k0.c1 k0.c2)) (And.intro k1.c0 (And.intro k1.c1 k1.c2))))
    clear s
    go_wp2_with fail
    go_ret
    exact ⟨rfl, bb.out⟩
  · go_enter Try.func6, Try.ntmps6
    obtain ⟨k0x, k0y, k0z, k0u, k0v, k0w⟩ := id k0
    go_wp2_with fail
    clear k0x k0y k0z k0u k0v k0w
    refine (sz_arm_no p0 q0 r0 lp0 cp0 lq0 cq0 lr0 cr0 _ g1 g2 g3 hsz).mono ?_
    rintro e w6 ⟨rfl, q⟩
    replace hr := Lib.hid (hr.out.after q)
    replace bb := Lib.hid (bel_after bb.out q)
    replace k0 := k0.after q
    clear q
    obtain ⟨k0x, k0y, k0z, k0u, k0v, k0w⟩ := id k0
    go_wp2_with fail
    clear k0x k0y k0z k0u k0v k0w
    go_ret
    exact ⟨rfl, bb.out⟩
theorem own : ownKnob Try.prog.godebug = none := by kernel_rfl
theorem laidOut : laidOutB Try.prog = true := by kernel_rfl
theorem cellsArm : Try.prog.cellsOf 30 = 3 := by kernel_rfl
set_option maxRecDepth 100000 in
theorem lifted (os : Os) (started : os.Started) (H : Type) (enc : TypeId × Value → H) :
    ReturnsInHanded {} Try.checked os 6 .any (Rows.fnExactReachOfSpec.pre6 enc Try.prog Try.f6 Rows.fnExactReachOfRow.domain false) (Rows.fnExactReachOfSpec.post enc Try.prog Try.f6 false true false false) := by
  refine returnsInHanded_of_change (C := Try.checked) own started (by kernel_rfl) Try.func6
    (ChangeSpec.witness6 (enc := enc) (C := Try.checked) false ⟨#[], #[.agg #[.slice none 0 0, .slice none 0 0, .slice none 0 0]], []⟩ 8 (by kernel_rfl) (by kernel_rfl) (by kernel_rfl) (by kernel_rfl)) ?_
  intro W base args ds gs before hval0 hW hcnd _
  have hval : ∀ (j : Nat) t v, Try.f6.params[j]? = some t → args[j]? = some v → Value.okWide Try.prog W .any base t v := hval0
  have hW' := hW
  obtain ⟨p, q, hA0, hV, rfl, hfz, hnd⟩ := hW
  have hA : DataW.TrodAll enc Try.prog W 0 (fun _ => true) true Try.f6.params.toList args.toList ds p := hA0
  rw [Try.params6] at hA hval
  obtain ⟨v0_, vs0, d0, ds0, p0, q0, hargs, rfl, rfl, h0, r0⟩ := trodAll_cons hA
  obtain ⟨rfl, rfl, rfl⟩ := trodAll_nil r0
  obtain rfl : args = #[v0_] := by cases args; simp_all
  obtain ⟨rfl, rfl⟩ := trodVars_none hV
  have k0 := h0
  have lt0 : ∀ x ∈ p0, x.block < W.heap.size := by obtain ⟨m, hm⟩ := k0; exact DataW.trod_lt m _ _ _ hm
  obtain ⟨fa0, fb0, fc0, ya0, yb0, yc0, m0, rfl, hd0, hp0, ea0, eb0, ec0⟩ := Go.Joins.open_agg3 Try.underlying30 (by kernel_rfl) cellsArm (hval 0 30 v0_ rfl rfl) h0
  obtain ⟨p0_, lp0, cp0, zp0, rfl, wp0⟩ := open_row Try.underlying23 Try.underlying3 (by kernel_rfl) ea0
  obtain ⟨q0_, lq0, cq0, zq0, rfl, wq0⟩ := open_row Try.underlying23 Try.underlying3 (by kernel_rfl) eb0
  obtain ⟨r0_, lr0, cr0, zr0, rfl, wt0⟩ := open_row Try.underlying23 Try.underlying3 (by kernel_rfl) ec0
  clear hA0 hval0
  refine (walk p0_ q0_ r0_ lp0 cp0 lq0 cq0 lr0 cr0 zp0 zq0 zr0 W wp0 wq0 wt0).mono fun e W' ⟨he, bel⟩ => ?_
  subst he
  exact ⟨_, rfl, _, _, _, [], _, [], hW', trodAll_mk1 (shut_bool Try.underlying4 _), (trodAll_cons_mk (Below.trod laidOut (by kernel_rfl) (of_decide_eq_true (by kernel_rfl)) k0 bel lt0) trodAll_mk0), rfl, bel.frame _, fun h => by cases h⟩
theorem over : Rows.fnExactReachOfRow.holds Try.pinned (OpenSpec.ofChange Rows.fnExactReachOfSpec) :=
  OpenClaim.holds_of_wide 6 Try.f6 rfl rfl rfl rfl rfl rfl rfl ⟨rfl, rfl, rfl, rfl, rfl⟩ rfl rfl rfl rfl rfl (by kernel_rfl) Try.func6 (by kernel_rfl)
    (of_decide_eq_true (by kernel_rfl)) (by unfold Func.isWrapper; first | (rw [if_pos (by decide +kernel)]; kernel_rfl) | (rw [if_neg (by decide +kernel)]; exact ⟨rfl, rfl⟩))
    (fun os started H enc _ => lifted os started H enc)
theorem proved : Rows.FnExactReachOfSaid := over
#print axioms proved
end Go.Proofs.Ytnkjnphmpembaaa.fnExactReachOf
