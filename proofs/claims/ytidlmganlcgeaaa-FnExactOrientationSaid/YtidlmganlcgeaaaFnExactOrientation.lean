/- Proves that the law FnExactOrientation returns true for every input. Conditions: none. -/
import Derived.Test.YtidlmganlcgeaaaRows
import Derived.Test.YtidlmganlcgeaaaOri
import Derived.Deep.RegionHeld3
import Derived.ChangeOld
import Derived.ShutString
import Derived.Lib.SmallJoins
namespace Go.Proofs.Ytidlmganlcgeaaa.fnExactOrientation
open Go.ChangeShapes Go.WideShapes Go.ChangeAt Go.RowKit
set_option linter.unusedVariables false
theorem walk (x0 y0 : Int) (x1 y1 : Int) (x2 y2 : Int) (w : World) (u0 : (Lit.int .i64 x0).wf = true) (v0 : (Lit.int .i64 y0).wf = true) (u1 : (Lit.int .i64 x1).wf = true) (v1 : (Lit.int .i64 y1).wf = true) (u2 : (Lit.int .i64 x2).wf = true) (v2 : (Lit.int .i64 y2).wf = true) :
    Calls Try.prog 7 #[.agg #[.int .i64 x0, .int .i64 y0], .agg #[.int .i64 x1, .int .i64 y1], .agg #[.int .i64 x2, .int .i64 y2]] w fun e w' => e = .returned (.bool true) ∧ Below w.heap.size w w' := by
  have B0 := ((Box.new w x0 y0 23).alloc (.cells #[.int .i64 x1, .int .i64 y1] 23)).alloc (.cells #[.int .i64 x2, .int .i64 y2] 23)
  have B1 := (Box.new (w.alloc (.cells #[.int .i64 x0, .int .i64 y0] 23)) x1 y1 23).alloc (.cells #[.int .i64 x2, .int .i64 y2] 23)
  rw [World.size_alloc] at B1
  have B2 := Box.new ((w.alloc (.cells #[.int .i64 x0, .int .i64 y0] 23)).alloc (.cells #[.int .i64 x1, .int .i64 y1] 23)) x2 y2 23
  rw [World.size_alloc, World.size_alloc] at B2
  have s := And.intro (And.intro B0.1 B0.2.1) (And.intro (And.intro B1.1 B1.2.1) (And.intro B2.1 B2.2.1))
  have hq := Lib.hid (bel_alloc (bel_alloc (bel_alloc (Below.refl _ w) (.cells #[.int .i64 x0, .int .i64 y0] 23)) (.cells #[.int .i64 x1, .int .i64 y1] 23)) (.cells #[.int .i64 x2, .int .i64 y2] 23))
  clear B0 B1 B2
  go_enter Try.func7, Try.ntmps7
  go_wp2_with fail
  generalize ((w.alloc (.cells #[.int .i64 x0, .int .i64 y0] 23)).alloc (.cells #[.int .i64 x1, .int .i64 y1] 23)).alloc (.cells #[.int .i64 x2, .int .i64 y2] 23) = v at *
  go_region_held3 (fun w' => (w'.cell? ⟨w.heap.size, 0, none⟩ = some (.int .i64 x0) ∧ w'.cell? ⟨w.heap.size, 1, none⟩ = some (.int .i64 y0)) ∧ (w'.cell? ⟨w.heap.size + 1, 0, none⟩ = some (.int .i64 x1) ∧ w'.cell? ⟨w.heap.size + 1, 1, none⟩ = some (.int .i64 y1)) ∧ (w'.cell? ⟨w.heap.size + 1 + 1, 0, none⟩ = some (.int .i64 x2) ∧ w'.cell? ⟨w.heap.size + 1 + 1, 1, none⟩ = some (.int .i64 y2))) (first | (with_reducible assumption) | go_keep) (first | (go_at_call 12; refine (to_point _ _ _).mono ?_; rintro e wn ⟨rfl, b⟩; have hb := Lib.hid b; have s := keep6 b (by with_reducible assumption); clear b) | (go_at_call 20; refine (spec_ori _ _ _ _ _ _ _).mono ?_; rintro e wn ⟨rfl, b⟩; have hb := Lib.hid b; have s := keep6 b (by with_reducible assumption); clear b))
  go_wp2_with fail
  go_region_held3 (fun w' => (w'.cell? ⟨w.heap.size, 0, none⟩ = some (.int .i64 x0) ∧ w'.cell? ⟨w.heap.size, 1, none⟩ = some (.int .i64 y0)) ∧ (w'.cell? ⟨w.heap.size + 1, 0, none⟩ = some (.int .i64 x1) ∧ w'.cell? ⟨w.heap.size + 1, 1, none⟩ = some (.int .i64 y1)) ∧ (w'.cell? ⟨w.heap.size + 1 + 1, 0, none⟩ = some (.int .i64 x2) ∧ w'.cell? ⟨w.heap.size + 1 + 1, 1, none⟩ = some (.int .i64 y2))) (first | (with_reducible assumption) | go_keep) (first | (go_at_call 12; refine (to_point _ _ _).mono ?_; rintro e wn ⟨rfl, b⟩; have hb := Lib.hid b; have s := keep6 b (by with_reducible assumption); clear b) | (go_at_call 21; refine (impl_ori _ _ _ _ _ _ _).mono ?_; rintro e wn ⟨rfl, b⟩; have hb := Lib.hid b; have s := keep6 b (by with_reducible assumption); clear b))
  go_wp2_with fail
  go_ret
  exact ⟨ret_bool (by simp), by repeat (first | exact hq.out | refine Below.drew ?_ | refine bel_alloc ?_ _ | refine bel_trans ?_ (by assumption))⟩
theorem own : ownKnob Try.prog.godebug = none := by kernel_rfl
theorem cellsPt : Try.prog.cellsOf 23 = 2 := by kernel_rfl
set_option maxRecDepth 100000 in
theorem lifted (os : Os) (started : os.Started) (H : Type) (enc : TypeId × Value → H) :
    ReturnsInHanded {} Try.checked os 7 .any (Rows.fnExactOrientationSpec.pre6 enc Try.prog Try.f7 Rows.fnExactOrientationRow.domain false) (Rows.fnExactOrientationSpec.post enc Try.prog Try.f7 false true false false) := by
  refine returnsInHanded_of_change (C := Try.checked) own started (by kernel_rfl) Try.func7
    (ChangeSpec.witness6 (enc := enc) (C := Try.checked) false ⟨#[], #[.agg #[.int .i64 0, .int .i64 0], .agg #[.int .i64 0, .int .i64 0], .agg #[.int .i64 0, .int .i64 0]], []⟩ 8 (by kernel_rfl) (by kernel_rfl) (by kernel_rfl) (by kernel_rfl)) ?_
  intro W base args ds gs before hval0 hW hcnd _
  have hval : ∀ (j : Nat) t v, Try.f7.params[j]? = some t → args[j]? = some v → Value.okWide Try.prog W .any base t v := hval0
  have hW' := hW
  obtain ⟨p, q, hA0, hV, rfl, hfz, hnd⟩ := hW
  have hA : DataW.TrodAll enc Try.prog W 0 (fun _ => true) true Try.f7.params.toList args.toList ds p := hA0
  rw [Try.params7] at hA hval
  obtain ⟨v0_, vs0, d0, ds0, p0, q0, hargs, rfl, rfl, h0, r0⟩ := trodAll_cons hA
  obtain ⟨v1_, vs1, d1, ds1, p1, q1, rfl, rfl, rfl, h1, r1⟩ := trodAll_cons r0
  obtain ⟨v2_, vs2, d2, ds2, p2, q2, rfl, rfl, rfl, h2, r2⟩ := trodAll_cons r1
  obtain ⟨rfl, rfl, rfl⟩ := trodAll_nil r2
  obtain rfl : args = #[v0_, v1_, v2_] := by cases args; simp_all
  obtain ⟨rfl, rfl⟩ := trodVars_none hV
  obtain ⟨c0, g0, ya0, yb0, m0, rfl, rfl, rfl, hya0, hyb0⟩ := Go.Joins.open_agg2 Try.underlying23 (by kernel_rfl) cellsPt (hval 0 23 v0_ rfl rfl) h0
  obtain ⟨x0, ea0, rfl, u0⟩ := DataW.trod_int Try.underlying3 hya0
  obtain ⟨y0, eb0, rfl, v0⟩ := DataW.trod_int Try.underlying3 hyb0
  simp at ea0 eb0
  subst ea0 eb0
  obtain ⟨c1, g1, ya1, yb1, m1, rfl, rfl, rfl, hya1, hyb1⟩ := Go.Joins.open_agg2 Try.underlying23 (by kernel_rfl) cellsPt (hval 1 23 v1_ rfl rfl) h1
  obtain ⟨x1, ea1, rfl, u1⟩ := DataW.trod_int Try.underlying3 hya1
  obtain ⟨y1, eb1, rfl, v1⟩ := DataW.trod_int Try.underlying3 hyb1
  simp at ea1 eb1
  subst ea1 eb1
  obtain ⟨c2, g2, ya2, yb2, m2, rfl, rfl, rfl, hya2, hyb2⟩ := Go.Joins.open_agg2 Try.underlying23 (by kernel_rfl) cellsPt (hval 2 23 v2_ rfl rfl) h2
  obtain ⟨x2, ea2, rfl, u2⟩ := DataW.trod_int Try.underlying3 hya2
  obtain ⟨y2, eb2, rfl, v2⟩ := DataW.trod_int Try.underlying3 hyb2
  simp at ea2 eb2
  subst ea2 eb2
  clear hA0 hval0
  simp only [List.append_nil] at hW'
  refine (walk x0 y0 x1 y1 x2 y2 W u0 v0 u1 v1 u2 v2).mono fun e W' ⟨he, bel⟩ => ?_
  subst he
  exact ⟨_, rfl, _, _, _, [], [], [], hW', trodAll_mk1 (shut_bool Try.underlying4 _), (trodAll_cons_mk (Go.Joins.shut_agg2 (y0 := (.lit (.int .i64 x0), [])) (y1 := (.lit (.int .i64 y0), [])) Try.underlying23 (by kernel_rfl) cellsPt ⟨1, by simp [DataW.trod, Try.underlying3, u0]⟩ ⟨1, by simp [DataW.trod, Try.underlying3, v0]⟩) (trodAll_cons_mk (Go.Joins.shut_agg2 (y0 := (.lit (.int .i64 x1), [])) (y1 := (.lit (.int .i64 y1), [])) Try.underlying23 (by kernel_rfl) cellsPt ⟨1, by simp [DataW.trod, Try.underlying3, u1]⟩ ⟨1, by simp [DataW.trod, Try.underlying3, v1]⟩) (trodAll_cons_mk (Go.Joins.shut_agg2 (y0 := (.lit (.int .i64 x2), [])) (y1 := (.lit (.int .i64 y2), [])) Try.underlying23 (by kernel_rfl) cellsPt ⟨1, by simp [DataW.trod, Try.underlying3, u2]⟩ ⟨1, by simp [DataW.trod, Try.underlying3, v2]⟩) trodAll_mk0))), rfl, bel.frame _, fun h => by cases h⟩
theorem over : Rows.fnExactOrientationRow.holds Try.pinned (OpenSpec.ofChange Rows.fnExactOrientationSpec) :=
  OpenClaim.holds_of_wide 7 Try.f7 rfl rfl rfl rfl rfl rfl rfl ⟨rfl, rfl, rfl, rfl, rfl⟩ rfl rfl rfl rfl rfl (by kernel_rfl) Try.func7 (by kernel_rfl)
    (of_decide_eq_true (by kernel_rfl)) (by unfold Func.isWrapper; first | (rw [if_pos (by decide +kernel)]; kernel_rfl) | (rw [if_neg (by decide +kernel)]; exact ⟨rfl, rfl⟩))
    (fun os started H enc _ => lifted os started H enc)
theorem proved : Rows.FnExactOrientationSaid := over
#print axioms proved
end Go.Proofs.Ytidlmganlcgeaaa.fnExactOrientation
