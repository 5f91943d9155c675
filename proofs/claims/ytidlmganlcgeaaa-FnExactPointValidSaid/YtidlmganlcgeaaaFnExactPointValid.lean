/- Proves that the law FnExactPointValid returns true for every input. Conditions: none. -/
import Derived.Test.YtidlmganlcgeaaaRows
import Derived.Test.YtidlmganlcgeaaaPoint
import Derived.ChangeOld
import Derived.ShutString
import Derived.Lib.SmallJoins
namespace Go.Proofs.Ytidlmganlcgeaaa.fnExactPointValid
open Go.ChangeShapes Go.WideShapes Go.ChangeAt Go.RowKit
set_option linter.unusedVariables false
theorem walk (x0 y0 : Int) (w : World) (u0 : (Lit.int .i64 x0).wf = true) (v0 : (Lit.int .i64 y0).wf = true) :
    Calls Try.prog 3 #[.agg #[.int .i64 x0, .int .i64 y0]] w fun e w' => e = .returned (.bool true) ∧ Below w.heap.size w w' := by
  go_enter Try.func3, Try.ntmps3
  have B0 := Box.new w x0 y0 23
  have q := Lib.hid ((Below.refl w.heap.size w).alloc (Nat.le_refl _) (.cells #[.int .i64 x0, .int .i64 y0] 23))
  obtain ⟨c0a, c0b, c0c⟩ := B0
  go_wp2_with fail
  refine (to_point x0 y0 _).mono ?_
  rintro e w1' ⟨rfl, b⟩
  have B0 := Box.below ⟨c0a, c0b, c0c⟩ b c0c
  have q := Lib.hid (q.out.trans (b.mono q.out.size))
  clear b c0a c0b
  obtain ⟨c0a, c0b, c0c⟩ := B0
  go_wp2_with fail
  refine (spec_pv _ _ _).mono ?_
  rintro e w2' ⟨rfl, b⟩
  have B0 := Box.below ⟨c0a, c0b, c0c⟩ b c0c
  have q := Lib.hid (q.out.trans (b.mono q.out.size))
  clear b c0a c0b
  obtain ⟨c0a, c0b, c0c⟩ := B0
  go_wp2_with fail
  refine (to_point x0 y0 _).mono ?_
  rintro e w3' ⟨rfl, b⟩
  have B0 := Box.below ⟨c0a, c0b, c0c⟩ b c0c
  have q := Lib.hid (q.out.trans (b.mono q.out.size))
  clear b c0a c0b
  obtain ⟨c0a, c0b, c0c⟩ := B0
  go_wp2_with fail
  refine (impl_pv _ _ _).mono ?_
  rintro e w4' ⟨rfl, b⟩
  have B0 := Box.below ⟨c0a, c0b, c0c⟩ b c0c
  have q := Lib.hid (q.out.trans (b.mono q.out.size))
  clear b c0a c0b
  go_wp2_with fail
  go_ret
  exact ⟨ret_bool (by simp), q.out⟩
theorem own : ownKnob Try.prog.godebug = none := by kernel_rfl
theorem cellsPt : Try.prog.cellsOf 23 = 2 := by kernel_rfl
set_option maxRecDepth 100000 in
theorem lifted (os : Os) (started : os.Started) (H : Type) (enc : TypeId × Value → H) :
    ReturnsInHanded {} Try.checked os 3 .any (Rows.fnExactPointValidSpec.pre6 enc Try.prog Try.f3 Rows.fnExactPointValidRow.domain false) (Rows.fnExactPointValidSpec.post enc Try.prog Try.f3 false true false false) := by
  refine returnsInHanded_of_change (C := Try.checked) own started (by kernel_rfl) Try.func3
    (ChangeSpec.witness6 (enc := enc) (C := Try.checked) false ⟨#[], #[.agg #[.int .i64 0, .int .i64 0]], []⟩ 8 (by kernel_rfl) (by kernel_rfl) (by kernel_rfl) (by kernel_rfl)) ?_
  intro W base args ds gs before hval0 hW hcnd _
  have hval : ∀ (j : Nat) t v, Try.f3.params[j]? = some t → args[j]? = some v → Value.okWide Try.prog W .any base t v := hval0
  have hW' := hW
  obtain ⟨p, q, hA0, hV, rfl, hfz, hnd⟩ := hW
  have hA : DataW.TrodAll enc Try.prog W 0 (fun _ => true) true Try.f3.params.toList args.toList ds p := hA0
  rw [Try.params3] at hA hval
  obtain ⟨v0_, vs0, d0, ds0, p0, q0, hargs, rfl, rfl, h0, r0⟩ := trodAll_cons hA
  obtain ⟨rfl, rfl, rfl⟩ := trodAll_nil r0
  obtain rfl : args = #[v0_] := by cases args; simp_all
  obtain ⟨rfl, rfl⟩ := trodVars_none hV
  obtain ⟨c0, g0, ya0, yb0, m0, rfl, rfl, rfl, hya0, hyb0⟩ := Go.Joins.open_agg2 Try.underlying23 (by kernel_rfl) cellsPt (hval 0 23 v0_ rfl rfl) h0
  obtain ⟨x0, ea0, rfl, u0⟩ := DataW.trod_int Try.underlying3 hya0
  obtain ⟨y0, eb0, rfl, v0⟩ := DataW.trod_int Try.underlying3 hyb0
  simp at ea0 eb0
  subst ea0 eb0
  clear hA0 hval0
  simp only [List.append_nil] at hW'
  refine (walk x0 y0 W u0 v0).mono fun e W' ⟨he, bel⟩ => ?_
  subst he
  exact ⟨_, rfl, _, _, _, [], [], [], hW', trodAll_mk1 (shut_bool Try.underlying4 _), (trodAll_cons_mk (Go.Joins.shut_agg2 (y0 := (.lit (.int .i64 x0), [])) (y1 := (.lit (.int .i64 y0), [])) Try.underlying23 (by kernel_rfl) cellsPt ⟨1, by simp [DataW.trod, Try.underlying3, u0]⟩ ⟨1, by simp [DataW.trod, Try.underlying3, v0]⟩) trodAll_mk0), rfl, bel.frame _, fun h => by cases h⟩
theorem over : Rows.fnExactPointValidRow.holds Try.pinned (OpenSpec.ofChange Rows.fnExactPointValidSpec) :=
  OpenClaim.holds_of_wide 3 Try.f3 rfl rfl rfl rfl rfl rfl rfl ⟨rfl, rfl, rfl, rfl, rfl⟩ rfl rfl rfl rfl rfl (by kernel_rfl) Try.func3 (by kernel_rfl)
    (of_decide_eq_true (by kernel_rfl)) (by unfold Func.isWrapper; first | (rw [if_pos (by decide +kernel)]; kernel_rfl) | (rw [if_neg (by decide +kernel)]; exact ⟨rfl, rfl⟩))
    (fun os started H enc _ => lifted os started H enc)
theorem proved : Rows.FnExactPointValidSaid := over
#print axioms proved
end Go.Proofs.Ytidlmganlcgeaaa.fnExactPointValid
