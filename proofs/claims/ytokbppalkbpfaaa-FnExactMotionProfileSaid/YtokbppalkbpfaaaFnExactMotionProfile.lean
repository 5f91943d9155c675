/- Proves that the law FnExactMotionProfile returns true for every input. Conditions: none. -/
import Derived.Test.YtokbppalkbpfaaaRows
import Derived.Test.YtokbppalkbpfaaaProf
import Derived.Test.YtokbppalkbpfaaaSlices
import Derived.ChangeOld
import Derived.ShutString
import Derived.Lib.SmallJoins
namespace Go.Proofs.Ytokbppalkbpfaaa.fnExactMotionProfile
open Go.ChangeShapes Go.WideShapes Go.ChangeAt Go.RowKit
set_option linter.unusedVariables false
set_option maxHeartbeats 1000000 in
theorem walk (a0 : Int) (a1 : Int) (a2 : Int) (w : World) (w0 : (Lit.int .i64 a0).wf = true) (w1 : (Lit.int .i64 a1).wf = true) (w2 : (Lit.int .i64 a2).wf = true) :
    Calls Try.prog 8 #[.int .i64 a0, .int .i64 a1, .int .i64 a2] w fun e w' => e = .returned (.bool true) ∧ Below w.heap.size w w' := by
  have hlen := M.prof_len a0 a1 a2
  go_enter Try.func8, Try.ntmps8
  go_wp2_with fail
  refine (spec_prof a0 a1 a2 _).mono ?_
  rintro e wa ⟨v, rfl, ho0, hb0⟩
  obtain ⟨p0, cap0, rfl, r0⟩ := ho0.view
  go_wp2_with fail
  refine (impl_prof a0 a1 a2 _).mono ?_
  rintro e wb ⟨v, rfl, ho1, hb1⟩
  obtain ⟨p1, cap1, rfl, r1⟩ := ho1.view
  have r0 := r0.below hb1
  go_wp2_with fail
  refine (eq_ints_yes p1 p0 _ cap1 cap0 _ _ rfl (by omega) r1 (r0.mono hb1.size)).mono ?_
  rintro e wc ⟨rfl, hb2⟩
  have r0 := r0.below (hb2.mono hb1.size)
  have ho1 := ho1.old hb2
  clear r1
  go_wp2_with fail
  refine (mark_ints p1 cap1 _ 1 _ wa.heap.size _ rfl (by omega) (by omega) (by omega) ho1).mono ?_
  rintro e wd ⟨rfl, ho1, hb3⟩
  have r0 := r0.below hb3
  have hs1 := hb1.size
  have hs2 := hb2.size
  have hs3 := hb3.size
  go_wp2_with fail
  refine (held_ints p1 cap1 1 _ _ (by omega) (by omega) (by omega) ho1.row).mono ?_
  rintro e w' ⟨rfl, rfl⟩
  go_wp2_with fail
  refine (impl_prof a0 a1 a2 _).mono ?_
  rintro e we ⟨v, rfl, ho2, hb4⟩
  obtain ⟨p2, cap2, rfl, r2⟩ := ho2.view
  have r0 := r0.below (hb4.mono (by omega))
  have ho1 := ho1.old hb4
  have hs4 := hb4.size
  go_wp2_with fail
  refine (eq_ints_yes p2 p0 _ cap2 cap0 _ _ rfl (by omega) r2 (r0.mono (by omega))).mono ?_
  rintro e wf ⟨rfl, hb5⟩
  have ho1 := ho1.old hb5
  clear r0 r2
  go_wp2_with fail
  refine (held_ints p1 cap1 1 _ _ (by omega) (by omega) (by omega) ho1.row).mono ?_
  rintro e w' ⟨rfl, rfl⟩
  have hs0 := hb0.size
  go_wp2_with fail
  go_ret
  exact ⟨rfl, ((((hb0.trans (hb1.mono hs0)).trans (hb2.mono (by omega))).trans (hb3.mono hs0)).trans (hb4.mono (by omega))).trans (hb5.mono (by omega))⟩
theorem own : ownKnob Try.prog.godebug = none := by kernel_rfl
set_option maxRecDepth 100000 in
theorem lifted (os : Os) (started : os.Started) (H : Type) (enc : TypeId × Value → H) :
    ReturnsInHanded {} Try.checked os 8 .any (Rows.fnExactMotionProfileSpec.pre6 enc Try.prog Try.f8 Rows.fnExactMotionProfileRow.domain false) (Rows.fnExactMotionProfileSpec.post enc Try.prog Try.f8 false true false false) := by
  refine returnsInHanded_of_change (C := Try.checked) own started (by kernel_rfl) Try.func8
    (ChangeSpec.witness6 (enc := enc) (C := Try.checked) false ⟨#[], #[.int .i64 0, .int .i64 0, .int .i64 0], []⟩ 8 (by kernel_rfl) (by kernel_rfl) (by kernel_rfl) (by kernel_rfl)) ?_
  intro W base args ds gs before hval0 hW hcnd _
  have hval : ∀ (j : Nat) t v, Try.f8.params[j]? = some t → args[j]? = some v → Value.okWide Try.prog W .any base t v := hval0
  have hW' := hW
  obtain ⟨p, q, hA0, hV, rfl, hfz, hnd⟩ := hW
  have hA : DataW.TrodAll enc Try.prog W 0 (fun _ => true) true Try.f8.params.toList args.toList ds p := hA0
  rw [Try.params8] at hA hval
  obtain ⟨v0_, vs0, d0, ds0, p0, q0, hargs, rfl, rfl, h0, r0⟩ := trodAll_cons hA
  obtain ⟨v1_, vs1, d1, ds1, p1, q1, rfl, rfl, rfl, h1, r1⟩ := trodAll_cons r0
  obtain ⟨v2_, vs2, d2, ds2, p2, q2, rfl, rfl, rfl, h2, r2⟩ := trodAll_cons r1
  obtain ⟨rfl, rfl, rfl⟩ := trodAll_nil r2
  obtain rfl : args = #[v0_, v1_, v2_] := by cases args; simp_all
  obtain ⟨rfl, rfl⟩ := trodVars_none hV
  obtain ⟨a0, rfl, rfl, rfl, w0⟩ := open_int Try.underlying3 (hval 0 3 v0_ rfl rfl) h0
  obtain ⟨a1, rfl, rfl, rfl, w1⟩ := open_int Try.underlying3 (hval 1 3 v1_ rfl rfl) h1
  obtain ⟨a2, rfl, rfl, rfl, w2⟩ := open_int Try.underlying3 (hval 2 3 v2_ rfl rfl) h2
  clear hA0 hval0
  simp only [List.append_nil] at hW'
  refine (walk a0 a1 a2 W w0 w1 w2).mono fun e W' ⟨he, bel⟩ => ?_
  subst he
  exact ⟨_, rfl, _, _, _, [], [], [], hW', trodAll_mk1 (shut_bool Try.underlying4 _), (trodAll_cons_mk (shut_int Try.underlying3 w0) (trodAll_cons_mk (shut_int Try.underlying3 w1) (trodAll_cons_mk (shut_int Try.underlying3 w2) trodAll_mk0))), rfl, bel.frame _, fun h => by cases h⟩
theorem over : Rows.fnExactMotionProfileRow.holds Try.pinned (OpenSpec.ofChange Rows.fnExactMotionProfileSpec) :=
  OpenClaim.holds_of_wide 8 Try.f8 rfl rfl rfl rfl rfl rfl rfl ⟨rfl, rfl, rfl, rfl, rfl⟩ rfl rfl rfl rfl rfl (by kernel_rfl) Try.func8 (by kernel_rfl)
    (of_decide_eq_true (by kernel_rfl)) (by unfold Func.isWrapper; first | (rw [if_pos (by decide +kernel)]; kernel_rfl) | (rw [if_neg (by decide +kernel)]; exact ⟨rfl, rfl⟩))
    (fun os started H enc _ => lifted os started H enc)
theorem proved : Rows.FnExactMotionProfileSaid := over
#print axioms proved
end Go.Proofs.Ytokbppalkbpfaaa.fnExactMotionProfile
