/- Proves the tied card of the law FnExactDirectionOf: it returns true for every input, the tables of the sine being as laid by the program text. -/
import Derived.Test.YtlngkgpbmadmcaaDoorCards
import Derived.Test.YtlngkgpbmadmcaaDoorTie
import Derived.Test.YtlngkgpbmadmcaaDoorLaid
import Derived.Test.YtlngkgpbmadmcaaDoorDir
import Derived.ChangeOld
import Derived.ShutString
import Derived.Lib.SmallJoins
import Derived.LaidMore
import Derived.Stop.Joined
import Derived.SevenTiedAt
namespace Go.Proofs.YtlngkgpbmadmcaaDoor.fnExactDirectionOf
open Go.ChangeShapes Go.WideShapes Go.ChangeAt Go.RowKit
set_option linter.unusedVariables false
theorem walk (x0 y0 : Int) (w : World) (u0 : (Lit.int .i64 x0).wf = true) (v0 : (Lit.int .i64 y0).wf = true) (hT : Tables w) :
    Calls Tryd.prog 9 #[.agg #[.int .i64 x0, .int .i64 y0]] w fun e w' => e = .returned (.bool true) ∧ Below w.heap.size w w' := by
  replace hT := Lib.hid hT
  go_enter Tryd.func9, Tryd.ntmps9
  go_wp2_with fail
  refine (to_point x0 y0 _).mono ?_
  rintro e w1 ⟨rfl, b⟩
  have B0 := (Box.new w x0 y0 28).below b (by simp)
  have hq := Lib.hid (((Below.refl w.heap.size w).alloc (Nat.le_refl _) _).trans (b.mono (by simp)))
  clear b
  go_wp2_with fail
  refine (spec_dir x0 y0 _).mono ?_
  rintro e w2 ⟨rfl, b⟩
  have B0 := B0.below b B0.2.2
  replace hq := Lib.hid (bel_trans hq.out (Lib.hid b))
  clear b
  obtain ⟨c1, c2, c3⟩ := B0
  go_wp2_with fail
  refine (to_point x0 y0 _).mono ?_
  rintro e w3 ⟨rfl, b⟩
  replace hq := Lib.hid (bel_trans hq.out (Lib.hid b))
  replace hT := Lib.hid (hT.out.later hq.out)
  clear b c1 c2
  go_wp2_with fail
  refine (impl_dir x0 y0 _ hT.out).mono ?_
  rintro e w4 ⟨rfl, b⟩
  replace hq := Lib.hid (bel_trans hq.out (Lib.hid b))
  clear b
  go_wp2_with fail
  go_ret
  exact ⟨ret_bool (by simp), hq.out⟩
theorem own : ownKnob Tryd.prog.godebug = none := by kernel_rfl
theorem cellsPt : Tryd.prog.cellsOf 28 = 2 := by kernel_rfl
set_option maxRecDepth 100000 in
theorem lifted (os : Os) (started : os.Started) (H : Type) (enc : TypeId × Value → H) :
    ReturnsInHanded {} Tryd.checked os 9 .any (fun w args => (Rows.fnExactDirectionOfSpec.pre enc Tryd.prog Tryd.f9 [] false w args ∧ laidMetH Tryd.prog laid3 w) ∧ sizedMet enc Tryd.prog Tryd.f9 (OpenSpec.ofChange Rows.fnExactDirectionOfSpec) false w args)
      (Rows.fnExactDirectionOfSpec.post enc Tryd.prog Tryd.f9 false true false false) := by
  refine returnsInHanded_of_change_and (C := Tryd.checked) (X := fun w _ => laidMetH Tryd.prog laid3 w) (fun _ _ _ hh h => h.of_heap hh) own started (by kernel_rfl) Tryd.func9
    (ChangeSpec.witness_shaped (enc := enc) (C := Tryd.checked) (os := os) (X := fun w _ => laidMetH Tryd.prog laid3 w) false (World.doorLaid Tryd.prog 24 os) #[.agg #[.int .i64 0, .int .i64 0]] 8 rfl (World.shaped_of_RefB (by kernel_rfl) (by kernel_rfl)) (by kernel_rfl) (by kernel_rfl) (by kernel_rfl) (door_met os _)) ?_
  intro W base args ds gs before hval0 hW _ _ hL _
  have hval : ∀ (j : Nat) t v, Tryd.f9.params[j]? = some t → args[j]? = some v → Value.okWide Tryd.prog W .any base t v := hval0
  have hW' := hW
  obtain ⟨p, q, hA0, hV, rfl, hfz, hnd⟩ := hW
  have hA : DataW.TrodAll enc Tryd.prog W 0 (fun _ => true) true Tryd.f9.params.toList args.toList ds p := hA0
  rw [Tryd.params9] at hA hval
  obtain ⟨v0_, vs0, d0, ds0, p0, q0, hargs, rfl, rfl, h0, r0⟩ := trodAll_cons hA
  obtain ⟨rfl, rfl, rfl⟩ := trodAll_nil r0
  obtain rfl : args = #[v0_] := by cases args; simp_all
  obtain ⟨rfl, rfl⟩ := trodVars_none hV
  obtain ⟨c0, g0, ya0, yb0, m0, rfl, rfl, rfl, hya0, hyb0⟩ := Go.Joins.open_agg2 Tryd.underlying28 (by kernel_rfl) cellsPt (hval 0 28 v0_ rfl rfl) h0
  obtain ⟨x0, ea0, rfl, u0⟩ := DataW.trod_int Tryd.underlying3 hya0
  obtain ⟨y0, eb0, rfl, v0⟩ := DataW.trod_int Tryd.underlying3 hyb0
  simp at ea0 eb0
  subst ea0 eb0
  clear hA0 hval0
  simp only [List.append_nil] at hW'
  refine (walk x0 y0 W u0 v0 (of_laid hL)).mono fun e W' ⟨he, bel⟩ => ?_
  subst he
  exact ⟨_, rfl, _, _, _, [], [], [], hW', trodAll_mk1 (shut_bool Tryd.underlying4 _), (trodAll_cons_mk (Go.Joins.shut_agg2 (y0 := (.lit (.int .i64 x0), [])) (y1 := (.lit (.int .i64 y0), [])) Tryd.underlying28 (by kernel_rfl) cellsPt ⟨1, by simp [DataW.trod, Tryd.underlying3, u0]⟩ ⟨1, by simp [DataW.trod, Tryd.underlying3, v0]⟩) trodAll_mk0), rfl, bel.frame _, fun h => by cases h⟩
theorem over : Rows.FnExactDirectionOfSaid :=
  OpenClaim.holds_of_wide 9 Tryd.f9 rfl rfl rfl rfl rfl rfl rfl ⟨rfl, rfl, rfl, rfl, rfl⟩ rfl rfl rfl rfl rfl (by kernel_rfl) Tryd.func9 (by kernel_rfl)
    (of_decide_eq_true (by kernel_rfl)) (by unfold Func.isWrapper; first | (rw [if_pos (by decide +kernel)]; kernel_rfl) | (rw [if_neg (by decide +kernel)]; exact ⟨rfl, rfl⟩))
    (fun os started H enc _ => lifted os started H enc)
theorem proved : Rows.FnExactDirectionOfCardSaid :=
  Claim7.holds_tied_plain_at .later [] [.data, .data, .data] true (true, "ea8374f85c4f9e5ce2e7bf72290c1c4fbe94408adb395a757af16f730ae64a0b") false
    over (fun _ h => by cases h) (by kernel_rfl) (fun _ h => by cases h) fnExactDirectionOf_row_tie rfl ⟨rfl, rfl⟩ (by kernel_rfl) rfl
    (fun f fn hf hfn => by
      obtain rfl : f = 9 := Option.some.inj ((show Tryd.prog.funcNamed "loop.example/robotcell/laws.FnExactDirectionOf" = some 9 by kernel_rfl).symm.trans hf) |>.symm
      obtain rfl : fn = Tryd.f9 := (Option.some.inj (Tryd.func9.symm.trans hfn)).symm
      exact ⟨by kernel_rfl, fun j t ht => by
        rw [Tryd.params9] at ht
        have hm : t ∈ [28] := by simpa using Array.mem_of_getElem? ht
        have hall : ([28].all fun u => !Tryd.prog.wantsStandIn u) = true := by kernel_rfl
        exact (show Tryd.prog.wantsStandIn t = false by simpa using List.all_eq_true.1 hall t hm)⟩)
    (by kernel_rfl)
#print axioms proved
end Go.Proofs.YtlngkgpbmadmcaaDoor.fnExactDirectionOf
