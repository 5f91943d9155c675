/- Proves that the law FnExactProfileValid returns true for every input. Conditions: none. -/
import Derived.Test.YtokbppalkbpfaaaRows
import Derived.Test.YtokbppalkbpfaaaPvalid
import Derived.Test.YtokbppalkbpfaaaSlices
import Derived.ChangeOld
import Derived.ShutString
import Derived.Lib.SmallJoins
namespace Go.Proofs.Ytokbppalkbpfaaa.fnExactProfileValid
open Go.ChangeShapes Go.WideShapes Go.ChangeAt Go.RowKit
set_option linter.unusedVariables false
set_option maxHeartbeats 1000000 in
theorem walk (a0 : Option Addr) (len0 cap0 : Nat) (z0 : List Int) (a1 : Int) (a2 : Int) (w : World) (w0 : IsRow .i64 w a0 len0 cap0 z0) (w1 : (Lit.int .i64 a1).wf = true) (w2 : (Lit.int .i64 a2).wf = true) :
    Calls Try.prog 5 #[.slice a0 len0 cap0, .int .i64 a1, .int .i64 a2] w fun e w' => e = .returned (.bool true) ∧ Below w.heap.size w w' := by
  by_cases hlen : (1048576 : Int) < len0
  · go_enter Try.func5, Try.ntmps5
    go_wp2
    go_ret
    exact ⟨rfl, Below.refl _ _⟩
  · obtain ⟨hr, hl⟩ := Row.of_isRow w0
    obtain ⟨l, el⟩ : ∃ l, l = z0.take len0 := ⟨_, rfl⟩
    rw [← el] at hr hl
    clear w0 el
    have hl2 := Lib.hid hl
    have hm : len0 ≤ 1048576 := by omega
    clear hl
    go_enter Try.func5, Try.ntmps5
    go_wp2_with fail
    refine (to_ints a0 len0 cap0 l _ hl2.out hm hr).mono ?_
    rintro e wa ⟨v, rfl, ho0, hb0⟩
    obtain ⟨p0, c0, rfl, r0⟩ := ho0.view
    rw [hl2.out]
    have hr := hr.below hb0
    go_wp2_with fail
    refine (spec_pvalid p0 len0 c0 l a1 a2 _ hl2.out (by omega) r0).mono ?_
    rintro e w' ⟨rfl, rfl⟩
    go_wp2_with fail
    refine (to_ints a0 len0 cap0 l _ hl2.out hm (hr.mono hb0.size)).mono ?_
    rintro e wb ⟨v, rfl, ho1, hb1⟩
    obtain ⟨p1, c1, rfl, r1⟩ := ho1.view
    rw [hl2.out]
    have hs0 := hb0.size
    have hs1 := hb1.size
    have hr := hr.below (hb1.mono hs0)
    go_wp2_with fail
    refine (impl_pvalid p1 len0 c1 l a1 a2 _ hl2.out (by omega) r1).mono ?_
    rintro e w' ⟨rfl, rfl⟩
    go_wp2_with fail
    refine (to_ints a0 len0 cap0 l _ hl2.out hm (hr.mono (by omega))).mono ?_
    rintro e wc ⟨v, rfl, ho2, hb2⟩
    obtain ⟨p2, c2, rfl, r2⟩ := ho2.view
    rw [hl2.out]
    have hs2 := hb2.size
    have r1 := r1.below hb2
    go_wp2_with fail
    refine (eq_ints_yes p1 p2 len0 c1 c2 l _ hl2.out (by omega) (r1.mono hs2) r2).mono ?_
    rintro e wd ⟨rfl, hb3⟩
    go_wp2_with fail
    go_ret
    exact ⟨rfl, ((hb0.trans (hb1.mono hs0)).trans (hb2.mono (by omega))).trans (hb3.mono (by omega))⟩
theorem own : ownKnob Try.prog.godebug = none := by kernel_rfl
theorem laidOut : laidOutB Try.prog = true := by kernel_rfl
set_option maxRecDepth 100000 in
theorem lifted (os : Os) (started : os.Started) (H : Type) (enc : TypeId × Value → H) :
    ReturnsInHanded {} Try.checked os 5 .any (Rows.fnExactProfileValidSpec.pre6 enc Try.prog Try.f5 Rows.fnExactProfileValidRow.domain false) (Rows.fnExactProfileValidSpec.post enc Try.prog Try.f5 false true false false) := by
  refine returnsInHanded_of_change (C := Try.checked) own started (by kernel_rfl) Try.func5
    (ChangeSpec.witness6 (enc := enc) (C := Try.checked) false ⟨#[], #[.slice none 0 0, .int .i64 0, .int .i64 0], []⟩ 8 (by kernel_rfl) (by kernel_rfl) (by kernel_rfl) (by kernel_rfl)) ?_
  intro W base args ds gs before hval0 hW hcnd _
  have hval : ∀ (j : Nat) t v, Try.f5.params[j]? = some t → args[j]? = some v → Value.okWide Try.prog W .any base t v := hval0
  have hW' := hW
  obtain ⟨p, q, hA0, hV, rfl, hfz, hnd⟩ := hW
  have hA : DataW.TrodAll enc Try.prog W 0 (fun _ => true) true Try.f5.params.toList args.toList ds p := hA0
  rw [Try.params5] at hA hval
  obtain ⟨v0_, vs0, d0, ds0, p0, q0, hargs, rfl, rfl, h0, r0⟩ := trodAll_cons hA
  obtain ⟨v1_, vs1, d1, ds1, p1, q1, rfl, rfl, rfl, h1, r1⟩ := trodAll_cons r0
  obtain ⟨v2_, vs2, d2, ds2, p2, q2, rfl, rfl, rfl, h2, r2⟩ := trodAll_cons r1
  obtain ⟨rfl, rfl, rfl⟩ := trodAll_nil r2
  obtain rfl : args = #[v0_, v1_, v2_] := by cases args; simp_all
  obtain ⟨rfl, rfl⟩ := trodVars_none hV
  obtain ⟨a0, len0, cap0, rfl⟩ := okWide_slice Try.underlying26 (hval 0 26 v0_ rfl rfl)
  have k0 := h0
  have lt0 : ∀ x ∈ p0, x.block < W.heap.size := by obtain ⟨m, hm⟩ := k0; exact DataW.trod_lt m _ _ _ hm
  obtain ⟨z0, w0⟩ : ∃ zs, IsRow .i64 W a0 len0 cap0 zs := by
    obtain ⟨fuel, hf⟩ := h0
    rcases open_ints Try.underlying26 Try.underlying3 (by kernel_rfl) hf with ⟨hcs, _⟩ | ⟨x, l, c, zs, hcs, _, hl, hm, hz, _, hcell, hwz⟩
    · simp [Value.cells] at hcs
      obtain ⟨rfl, rfl, rfl⟩ := hcs
      exact ⟨[], .inl ⟨rfl, rfl, rfl, rfl⟩⟩
    · simp [Value.cells] at hcs
      obtain ⟨rfl, rfl, rfl⟩ := hcs
      exact ⟨zs, .inr ⟨_, rfl, hl, hm, by simpa using hz, hcell, hwz⟩⟩
  obtain ⟨a1, rfl, rfl, rfl, w1⟩ := open_int Try.underlying3 (hval 1 3 v1_ rfl rfl) h1
  obtain ⟨a2, rfl, rfl, rfl, w2⟩ := open_int Try.underlying3 (hval 2 3 v2_ rfl rfl) h2
  clear hA0 hval0
  refine (walk a0 len0 cap0 z0 a1 a2 W w0 w1 w2).mono fun e W' ⟨he, bel⟩ => ?_
  subst he
  exact ⟨_, rfl, _, _, _, [], _, [], hW', trodAll_mk1 (shut_bool Try.underlying4 _), (trodAll_cons_mk (Below.trod laidOut (by kernel_rfl) (of_decide_eq_true (by kernel_rfl)) k0 bel lt0) (trodAll_cons_mk (shut_int Try.underlying3 w1) (trodAll_cons_mk (shut_int Try.underlying3 w2) trodAll_mk0))), rfl, bel.frame _, fun h => by cases h⟩
theorem over : Rows.fnExactProfileValidRow.holds Try.pinned (OpenSpec.ofChange Rows.fnExactProfileValidSpec) :=
  OpenClaim.holds_of_wide 5 Try.f5 rfl rfl rfl rfl rfl rfl rfl ⟨rfl, rfl, rfl, rfl, rfl⟩ rfl rfl rfl rfl rfl (by kernel_rfl) Try.func5 (by kernel_rfl)
    (of_decide_eq_true (by kernel_rfl)) (by unfold Func.isWrapper; first | (rw [if_pos (by decide +kernel)]; kernel_rfl) | (rw [if_neg (by decide +kernel)]; exact ⟨rfl, rfl⟩))
    (fun os started H enc _ => lifted os started H enc)
theorem proved : Rows.FnExactProfileValidSaid := over
#print axioms proved
end Go.Proofs.Ytokbppalkbpfaaa.fnExactProfileValid
