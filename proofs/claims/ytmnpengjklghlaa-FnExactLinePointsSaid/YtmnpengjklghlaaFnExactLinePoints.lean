/- Proves that the law FnExactLinePoints returns true for every input. Conditions: none. -/
import Derived.Test.YtmnpengjklghlaaRows
import Derived.Test.YtmnpengjklghlaaLines
import Derived.Test.YtmnpengjklghlaaPtm
import Derived.ChangeOld
import Derived.ShutString
import Derived.Lib.SmallJoins
namespace Go.Proofs.Ytmnpengjklghlaa.fnExactLinePoints
open Go.ChangeShapes Go.WideShapes Go.ChangeAt Go.RowKit
set_option linter.unusedVariables false
set_option maxHeartbeats 4000000 in
theorem walk (x0 y0 : Int) (x1 y1 : Int) (a2 : Int) (w : World) (u0 : (Lit.int .i64 x0).wf = true) (v0 : (Lit.int .i64 y0).wf = true) (u1 : (Lit.int .i64 x1).wf = true) (v1 : (Lit.int .i64 y1).wf = true) (w2 : (Lit.int .i64 a2).wf = true) :
    Calls Try.prog 3 #[.agg #[.int .i64 x0, .int .i64 y0], .agg #[.int .i64 x1, .int .i64 y1], .int .i64 a2] w fun e w' => e = .returned (.bool true) ∧ Below w.heap.size w w' := by
  have B0 := (Box.new w x0 y0 23).alloc (.cells #[.int .i64 x1, .int .i64 y1] 23)
  have B1 := Box.new (w.alloc (.cells #[.int .i64 x0, .int .i64 y0] 23)) x1 y1 23
  rw [World.size_alloc] at B1
  have s := And.intro (And.intro B0.1 B0.2.1) (And.intro B1.1 B1.2.1)
  have hqv := Lib.hid (bel_alloc (bel_alloc (Below.refl _ w) (.cells #[.int .i64 x0, .int .i64 y0] 23)) (.cells #[.int .i64 x1, .int .i64 y1] 23))
  clear B0 B1
  have hlen : (M.lpts x0 y0 x1 y1 a2).length ≤ 401 := by
    by_cases h : okLine x0 y0 x1 y1 a2
    · rw [M.lpts_yes h, M.line_len]; have := h.2; omega
    · rw [M.lpts_no h]; simp
  obtain ⟨n, hn⟩ : ∃ n, (M.lpts x0 y0 x1 y1 a2).length = n := ⟨_, rfl⟩
  rw [hn] at hlen
  generalize hL : M.lpts x0 y0 x1 y1 a2 = L at *
  replace hL := Lib.hid hL
  replace hn := Lib.hid hn
  go_enter Try.func3, Try.ntmps3
  go_wp2_with fail
  generalize (w.alloc (.cells #[.int .i64 x0, .int .i64 y0] 23)).alloc (.cells #[.int .i64 x1, .int .i64 y1] 23) = v at *
  have hl0 : w.heap.size + 1 < v.heap.size := World.block_lt_of_cell? _ _ s.2.1
  go_region_held3 (fun w' => (w'.cell? ⟨w.heap.size, 0, none⟩ = some (.int .i64 x0) ∧ w'.cell? ⟨w.heap.size, 1, none⟩ = some (.int .i64 y0)) ∧ (w'.cell? ⟨w.heap.size + 1, 0, none⟩ = some (.int .i64 x1) ∧ w'.cell? ⟨w.heap.size + 1, 1, none⟩ = some (.int .i64 y1))) (first | (with_reducible assumption) | go_keep) (first | (go_at_call_of 8 (Value.agg #[Value.int IntKind.i64 x0, Value.int IntKind.i64 y0]); refine (to_point _ _ _).mono ?_; rintro e wa ⟨rfl, b⟩; have hqwa := Lib.hid (bel_trans (Below.drew hqv.out) (Lib.hid b)); have s := keep4 b (by with_reducible assumption); have zwa : v.heap.size ≤ wa.heap.size := b.size; have hbwa := Lib.hid b; clear b) | (go_at_call 8; refine (to_point _ _ _).mono ?_; rintro e wb ⟨rfl, b⟩; have hqwb := Lib.hid (bel_trans hqwa.out (Lib.hid b)); have s := keep4 b (by with_reducible assumption); have zwb : wa.heap.size ≤ wb.heap.size := b.size; have hbwb := Lib.hid b; clear b) | (go_at_call 7; refine (spec_line _ _ _ _ _ _).mono ?_; rintro e wc ⟨vwc, rfl, ho0, b⟩; have hqwc := Lib.hid (bel_trans hqwb.out (Lib.hid b)); have s := keep4 b (by with_reducible assumption); have zwc : wb.heap.size ≤ wc.heap.size := b.size; have hbwc := Lib.hid b; clear b))
  rw [hL.out] at ho0
  obtain ⟨p0, c0, rfl, r0⟩ := ho0.view
  rw [hn.out]
  clear ho0
  go_wp2_with fail
  go_region_held3 (fun w' => (w'.cell? ⟨w.heap.size, 0, none⟩ = some (.int .i64 x0) ∧ w'.cell? ⟨w.heap.size, 1, none⟩ = some (.int .i64 y0)) ∧ (w'.cell? ⟨w.heap.size + 1, 0, none⟩ = some (.int .i64 x1) ∧ w'.cell? ⟨w.heap.size + 1, 1, none⟩ = some (.int .i64 y1))) (first | (with_reducible assumption) | go_keep) (first | (go_at_call_of 8 (Value.agg #[Value.int IntKind.i64 x0, Value.int IntKind.i64 y0]); refine (to_point _ _ _).mono ?_; rintro e wd ⟨rfl, b⟩; have hqwd := Lib.hid (bel_trans (Below.drew hqwc.out) (Lib.hid b)); have s := keep4 b (by with_reducible assumption); have zwd : wc.heap.size ≤ wd.heap.size := b.size; have hbwd := Lib.hid b; clear b) | (go_at_call 8; refine (to_point _ _ _).mono ?_; rintro e we ⟨rfl, b⟩; have hqwe := Lib.hid (bel_trans hqwd.out (Lib.hid b)); have s := keep4 b (by with_reducible assumption); have zwe : wd.heap.size ≤ we.heap.size := b.size; have hbwe := Lib.hid b; clear b) | (go_at_call 9; refine (impl_line _ _ _ _ _ _).mono ?_; rintro e wf ⟨vwf, rfl, ho1, b⟩; have hqwf := Lib.hid (bel_trans hqwe.out (Lib.hid b)); have s := keep4 b (by with_reducible assumption); have zwf : we.heap.size ≤ wf.heap.size := b.size; have hbwf := Lib.hid b; clear b))
  rw [hL.out] at ho1
  have r0 := (((r0.below (w' := wc.drew) (Below.drew (Below.refl _ _))).below ((hbwd.out).mono (by show _ ≤ wc.heap.size; omega))).below (hbwe.out.mono (by omega))).below (hbwf.out.mono (by omega))
  obtain ⟨p1, c1, rfl, r1⟩ := ho1.view
  rw [hn.out] at ho1 ⊢
  go_wp2_with fail
  refine (eq_pts_yes p1 p0 n c1 c0 L _ hn.out (by omega) r1 (r0.mono (by omega))).mono ?_
  rintro e wg ⟨rfl, b⟩
  have hq := Lib.hid (bel_trans hqwf.out (Lib.hid b))
  have s := keep4 b (by with_reducible assumption)
  have zg := b.size
  have r0 := r0.below (b.mono (by omega))
  have ho1 := ho1.old b
  have hs2 := s
  clear b r1
  go_wp2_with fail
  refine (mark_pts p1 c1 L 1 n we.heap.size _ hn.out (by omega) (by omega) (by omega) ho1).mono ?_
  rintro e wh ⟨rfl, ho2, b⟩
  have hq := Lib.hid (hq.out.trans (b.mono hqwe.out.size))
  have r0 := r0.below (b.mono (by omega))
  have zh := b.size
  have hl2 : w.heap.size + 1 < we.heap.size := by omega
  have s : (wh.cell? ⟨w.heap.size, 0, none⟩ = some (.int .i64 x0) ∧ wh.cell? ⟨w.heap.size, 1, none⟩ = some (.int .i64 y0)) ∧ (wh.cell? ⟨w.heap.size + 1, 0, none⟩ = some (.int .i64 x1) ∧ wh.cell? ⟨w.heap.size + 1, 1, none⟩ = some (.int .i64 y1)) := Two.below s b hl2
  clear b ho1
  go_wp2_with fail
  refine (held_pts p1 c1 1 n _ (by omega) (by omega) (by omega) ho2.row).mono ?_
  rintro e w' ⟨rfl, rfl⟩
  have hqwh := hq
  go_wp2_with fail
  go_region_held3 (fun w' => (w'.cell? ⟨w.heap.size, 0, none⟩ = some (.int .i64 x0) ∧ w'.cell? ⟨w.heap.size, 1, none⟩ = some (.int .i64 y0)) ∧ (w'.cell? ⟨w.heap.size + 1, 0, none⟩ = some (.int .i64 x1) ∧ w'.cell? ⟨w.heap.size + 1, 1, none⟩ = some (.int .i64 y1))) (first | (with_reducible assumption) | go_keep) (first | (go_at_call_of 8 (Value.agg #[Value.int IntKind.i64 x0, Value.int IntKind.i64 y0]); refine (to_point _ _ _).mono ?_; rintro e wi ⟨rfl, b⟩; have hqwi := Lib.hid (bel_trans (Below.drew hqwh.out) (Lib.hid b)); have s := keep4 b (by with_reducible assumption); have zwi : wh.heap.size ≤ wi.heap.size := b.size; have hbwi := Lib.hid b; clear b) | (go_at_call 8; refine (to_point _ _ _).mono ?_; rintro e wj ⟨rfl, b⟩; have hqwj := Lib.hid (bel_trans hqwi.out (Lib.hid b)); have s := keep4 b (by with_reducible assumption); have zwj : wi.heap.size ≤ wj.heap.size := b.size; have hbwj := Lib.hid b; clear b) | (go_at_call 9; refine (impl_line _ _ _ _ _ _).mono ?_; rintro e wk ⟨vwk, rfl, ho3, b⟩; have hqwk := Lib.hid (bel_trans hqwj.out (Lib.hid b)); have s := keep4 b (by with_reducible assumption); have zwk : wj.heap.size ≤ wk.heap.size := b.size; have hbwk := Lib.hid b; clear b))
  rw [hL.out] at ho3
  have r0 := (((r0.below (w' := wh.drew) (Below.drew (Below.refl _ _))).below ((hbwi.out).mono (by show _ ≤ wh.heap.size; omega))).below (hbwj.out.mono (by omega))).below (hbwk.out.mono (by omega))
  have ho2 := (((ho2.drew.old hbwi.out).old hbwj.out).old hbwk.out)
  obtain ⟨p2, c2, rfl, r2⟩ := ho3.view
  rw [hn.out]
  clear ho3
  go_wp2_with fail
  refine (eq_pts_yes p2 p0 n c2 c0 L _ hn.out (by omega) r2 (r0.mono (by omega))).mono ?_
  rintro e wl ⟨rfl, b⟩
  have hq := Lib.hid (bel_trans hqwk.out (Lib.hid b))
  have ho2 := ho2.old b
  clear b
  go_wp2_with fail
  refine (held_pts p1 c1 1 n _ (by omega) (by omega) (by omega) ho2.row).mono ?_
  rintro e w' ⟨rfl, rfl⟩
  go_wp2_with fail
  go_ret
  exact ⟨rfl, hq.out⟩
theorem own : ownKnob Try.prog.godebug = none := by kernel_rfl
theorem cellsPt : Try.prog.cellsOf 23 = 2 := by kernel_rfl
set_option maxRecDepth 100000 in
theorem lifted (os : Os) (started : os.Started) (H : Type) (enc : TypeId × Value → H) :
    ReturnsInHanded {} Try.checked os 3 .any (Rows.fnExactLinePointsSpec.pre6 enc Try.prog Try.f3 Rows.fnExactLinePointsRow.domain false) (Rows.fnExactLinePointsSpec.post enc Try.prog Try.f3 false true false false) := by
  refine returnsInHanded_of_change (C := Try.checked) own started (by kernel_rfl) Try.func3
    (ChangeSpec.witness6 (enc := enc) (C := Try.checked) false ⟨#[], #[.agg #[.int .i64 0, .int .i64 0], .agg #[.int .i64 0, .int .i64 0], .int .i64 0], []⟩ 8 (by kernel_rfl) (by kernel_rfl) (by kernel_rfl) (by kernel_rfl)) ?_
  intro W base args ds gs before hval0 hW hcnd _
  have hval : ∀ (j : Nat) t v, Try.f3.params[j]? = some t → args[j]? = some v → Value.okWide Try.prog W .any base t v := hval0
  have hW' := hW
  obtain ⟨p, q, hA0, hV, rfl, hfz, hnd⟩ := hW
  have hA : DataW.TrodAll enc Try.prog W 0 (fun _ => true) true Try.f3.params.toList args.toList ds p := hA0
  rw [Try.params3] at hA hval
  obtain ⟨v0_, vs0, d0, ds0, p0, q0, hargs, rfl, rfl, h0, r0⟩ := trodAll_cons hA
  obtain ⟨v1_, vs1, d1, ds1, p1, q1, rfl, rfl, rfl, h1, r1⟩ := trodAll_cons r0
  obtain ⟨v2_, vs2, d2, ds2, p2, q2, rfl, rfl, rfl, h2, r2⟩ := trodAll_cons r1
  obtain ⟨rfl, rfl, rfl⟩ := trodAll_nil r2
  obtain rfl : args = #[v0_, v1_, v2_] := by cases args; simp_all
  obtain ⟨rfl, rfl⟩ := trodVars_none hV
  obtain ⟨c0, g0, ya0, yb0, m0, rfl, rfl, rfl, hya0, hyb0⟩ := Go.Joins.open_agg2 Try.underlying23 (by kernel_rfl) cellsPt (hval 0 23 v0_ rfl rfl) h0
  obtain ⟨x0, ea0, rfl, u0⟩ := DataW.trod_int Try.underlying3 hya0
  obtain ⟨y0, eb0, rfl, v0⟩ := DataW.trod_int Try.underlying3 hyb0
  simp at ea0 eb0
  subst ea0 eb0
  obtain ⟨c1, g1, ya1, yb1, m1, rfl, rfl, rfl, hya1, hyb1⟩ := Go.Joins.open_agg2 Try.underlying23 (by kernel_rfl) cellsPt (hval 1 23 v1_ rfl rfl) h1
  obtain ⟨x1, ea1, rfl, u1⟩ := DataW.trod_int Try.underlying3 hya1
  obtain ⟨y1, eb1, rfl, v1⟩ := DataW.trod_int Try.underlying3 hyb1
  simp at ea1 eb1
  subst ea1 eb1
  obtain ⟨a2, rfl, rfl, rfl, w2⟩ := open_int Try.underlying3 (hval 2 3 v2_ rfl rfl) h2
  clear hA0 hval0
  simp only [List.append_nil] at hW'
  refine (walk x0 y0 x1 y1 a2 W u0 v0 u1 v1 w2).mono fun e W' ⟨he, bel⟩ => ?_
  subst he
  exact ⟨_, rfl, _, _, _, [], [], [], hW', trodAll_mk1 (shut_bool Try.underlying4 _), (trodAll_cons_mk (Go.Joins.shut_agg2 (y0 := (.lit (.int .i64 x0), [])) (y1 := (.lit (.int .i64 y0), [])) Try.underlying23 (by kernel_rfl) cellsPt ⟨1, by simp [DataW.trod, Try.underlying3, u0]⟩ ⟨1, by simp [DataW.trod, Try.underlying3, v0]⟩) (trodAll_cons_mk (Go.Joins.shut_agg2 (y0 := (.lit (.int .i64 x1), [])) (y1 := (.lit (.int .i64 y1), [])) Try.underlying23 (by kernel_rfl) cellsPt ⟨1, by simp [DataW.trod, Try.underlying3, u1]⟩ ⟨1, by simp [DataW.trod, Try.underlying3, v1]⟩) (trodAll_cons_mk (shut_int Try.underlying3 w2) trodAll_mk0))), rfl, bel.frame _, fun h => by cases h⟩
theorem over : Rows.fnExactLinePointsRow.holds Try.pinned (OpenSpec.ofChange Rows.fnExactLinePointsSpec) :=
  OpenClaim.holds_of_wide 3 Try.f3 rfl rfl rfl rfl rfl rfl rfl ⟨rfl, rfl, rfl, rfl, rfl⟩ rfl rfl rfl rfl rfl (by kernel_rfl) Try.func3 (by kernel_rfl)
    (of_decide_eq_true (by kernel_rfl)) (by unfold Func.isWrapper; first | (rw [if_pos (by decide +kernel)]; kernel_rfl) | (rw [if_neg (by decide +kernel)]; exact ⟨rfl, rfl⟩))
    (fun os started H enc _ => lifted os started H enc)
theorem proved : Rows.FnExactLinePointsSaid := over
#print axioms proved
end Go.Proofs.Ytmnpengjklghlaa.fnExactLinePoints
