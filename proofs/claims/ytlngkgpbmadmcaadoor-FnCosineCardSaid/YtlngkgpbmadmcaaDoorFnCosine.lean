/- Proves the tied card of the law FnCosine: it returns true for every input, the tables of the sine being as laid by the program text. -/
import Derived.Test.YtlngkgpbmadmcaaDoorCards
import Derived.Test.YtlngkgpbmadmcaaDoorTie
import Derived.Test.YtlngkgpbmadmcaaDoorLaid
import Derived.Test.YtlngkgpbmadmcaaDoorTrig
import Derived.Test.YtlngkgpbmadmcaaDoorDraw
import Derived.ChangeOld
import Derived.ShutString
import Derived.Lib.SmallJoins
import Derived.LaidMore
import Derived.Stop.Joined
import Derived.SevenTiedAt
namespace Go.Proofs.YtlngkgpbmadmcaaDoor.fnCosine
open Go.ChangeShapes Go.WideShapes Go.ChangeAt Go.RowKit
set_option linter.unusedVariables false
set_option maxHeartbeats 1000000 in
theorem walk (a0 : Option Addr) (len0 cap0 : Nat) (z0 : List Int) (w : World) (w0 : IsRow .u8 w a0 len0 cap0 z0) (hT : Tables w) :
    Calls Tryd.prog 6 #[.slice a0 len0 cap0] w fun e w' => e = .returned (.bool true) ∧ Below w.heap.size w w' := by
  by_cases hlen : (1048576 : Int) < len0
  · go_enter Tryd.func6, Tryd.ntmps6
    go_wp2
    go_ret
    exact ⟨rfl, Below.refl _ _⟩
  · replace hT := Lib.hid hT
    go_enter Tryd.func6, Tryd.ntmps6
    go_wp2_with fail
    refine (draw_cosine a0 len0 cap0 z0 _ w0).mono ?_
    rintro e wd ⟨⟨d, rfl⟩, hb⟩
    replace hT := Lib.hid (hT.out.later hb)
    obtain ⟨⟨⟨s1, s2⟩, ⟨s3, s4⟩⟩, _, e5, ⟨e6, e7⟩⟩ := trig d
    have e3 := sine_mod d
    have e4 : M.sine (d % 360 + 90) = M.cosine d := rfl
    have n1 : 0 ≤ d % 360 := by omega
    have n2 : d % 360 < 360 := by omega
    have q1 : 0 ≤ M.sine d * M.sine d := by
      rcases Int.le_total 0 (M.sine d) with h | h
      · exact Int.mul_nonneg h h
      · exact Int.mul_nonneg_of_nonpos_of_nonpos h h
    have q2 : 0 ≤ M.cosine d * M.cosine d := by
      rcases Int.le_total 0 (M.cosine d) with h | h
      · exact Int.mul_nonneg h h
      · exact Int.mul_nonneg_of_nonpos_of_nonpos h h
    clear w0 hlen
    go_wp2_with fail
    refine (impl_cosine d _ hT.out).mono ?_
    rintro e w' ⟨rfl, rfl⟩
    go_wp2_with fail
    refine (spec_cosine d _).mono ?_
    rintro e w2 ⟨rfl, hb2⟩
    have hT2 := Lib.hid (hT.out.later hb2)
    replace hb := Lib.hid (bel_tr hb hb2)
    clear hb2
    go_wp2_with fail
    refine (impl_deg d _).mono ?_
    rintro e w' ⟨rfl, rfl⟩
    go_wp2_with fail
    refine (impl_sine _ _ hT2.out).mono ?_
    rintro e w' ⟨rfl, rfl⟩
    generalize hS : M.sine d = S at *
    generalize hC : M.cosine d = C at *
    replace hS := Lib.hid hS
    replace hC := Lib.hid hC
    have ha : (if S * S + C * C - 16777216 < 0 then -(S * S + C * C - 16777216) else S * S + C * C - 16777216) ≤ 8192 := by split <;> omega
    go_wp2_with (first | (go_at_call 12; refine (impl_sine _ _ hT2.out).mono ?_; rintro e w' ⟨rfl, rfl⟩) | (go_at_call 14; refine (impl_cosine _ _ hT2.out).mono ?_; rintro e w' ⟨rfl, rfl⟩) | (go_at_call 17; refine (laws_abs _ _ (by omega) (by omega)).mono ?_; rintro e w' ⟨rfl, rfl⟩; generalize (if S * S + C * C - 16777216 < 0 then -(S * S + C * C - 16777216) else S * S + C * C - 16777216) = A at *))
    go_ret
    exact ⟨ret_bool (by simp), hb.out⟩
theorem own : ownKnob Tryd.prog.godebug = none := by kernel_rfl
theorem laidOut : laidOutB Tryd.prog = true := by kernel_rfl
set_option maxRecDepth 100000 in
theorem lifted (os : Os) (started : os.Started) (H : Type) (enc : TypeId × Value → H) :
    ReturnsInHanded {} Tryd.checked os 6 .any (fun w args => (Rows.fnCosineSpec.pre enc Tryd.prog Tryd.f6 [] false w args ∧ laidMetH Tryd.prog laid3 w) ∧ sizedMet enc Tryd.prog Tryd.f6 (OpenSpec.ofChange Rows.fnCosineSpec) false w args)
      (Rows.fnCosineSpec.post enc Tryd.prog Tryd.f6 false true false false) := by
  refine returnsInHanded_of_change_and (C := Tryd.checked) (X := fun w _ => laidMetH Tryd.prog laid3 w) (fun _ _ _ hh h => h.of_heap hh) own started (by kernel_rfl) Tryd.func6
    (ChangeSpec.witness_shaped (enc := enc) (C := Tryd.checked) (os := os) (X := fun w _ => laidMetH Tryd.prog laid3 w) false (World.doorLaid Tryd.prog 24 os) #[.slice none 0 0] 8 rfl (World.shaped_of_RefB (by kernel_rfl) (by kernel_rfl)) (by kernel_rfl) (by kernel_rfl) (by kernel_rfl) (door_met os _)) ?_
  intro W base args ds gs before hval0 hW _ _ hL _
  have hval : ∀ (j : Nat) t v, Tryd.f6.params[j]? = some t → args[j]? = some v → Value.okWide Tryd.prog W .any base t v := hval0
  have hW' := hW
  obtain ⟨p, q, hA0, hV, rfl, hfz, hnd⟩ := hW
  have hA : DataW.TrodAll enc Tryd.prog W 0 (fun _ => true) true Tryd.f6.params.toList args.toList ds p := hA0
  rw [Tryd.params6] at hA hval
  obtain ⟨v0_, vs0, d0, ds0, p0, q0, hargs, rfl, rfl, h0, r0⟩ := trodAll_cons hA
  obtain ⟨rfl, rfl, rfl⟩ := trodAll_nil r0
  obtain rfl : args = #[v0_] := by cases args; simp_all
  obtain ⟨rfl, rfl⟩ := trodVars_none hV
  obtain ⟨a0, len0, cap0, rfl⟩ := okWide_slice Tryd.underlying24 (hval 0 24 v0_ rfl rfl)
  have k0 := h0
  have lt0 : ∀ x ∈ p0, x.block < W.heap.size := by obtain ⟨m, hm⟩ := k0; exact DataW.trod_lt m _ _ _ hm
  obtain ⟨z0, w0⟩ : ∃ zs, IsRow .u8 W a0 len0 cap0 zs := by
    obtain ⟨fuel, hf⟩ := h0
    rcases open_ints Tryd.underlying24 Tryd.underlying5 (by kernel_rfl) hf with ⟨hcs, _⟩ | ⟨x, l, c, zs, hcs, _, hl, hm, hz, _, hcell, hwz⟩
    · simp [Value.cells] at hcs
      obtain ⟨rfl, rfl, rfl⟩ := hcs
      exact ⟨[], .inl ⟨rfl, rfl, rfl, rfl⟩⟩
    · simp [Value.cells] at hcs
      obtain ⟨rfl, rfl, rfl⟩ := hcs
      exact ⟨zs, .inr ⟨_, rfl, hl, hm, by simpa using hz, hcell, hwz⟩⟩
  clear hA0 hval0
  refine (walk a0 len0 cap0 z0 W w0 (of_laid hL)).mono fun e W' ⟨he, bel⟩ => ?_
  subst he
  exact ⟨_, rfl, _, _, _, [], _, [], hW', trodAll_mk1 (shut_bool Tryd.underlying4 _), (trodAll_cons_mk (Below.trod laidOut (by kernel_rfl) (of_decide_eq_true (by kernel_rfl)) k0 bel lt0) trodAll_mk0), rfl, bel.frame _, fun h => by cases h⟩
theorem over : Rows.FnCosineSaid :=
  OpenClaim.holds_of_wide 6 Tryd.f6 rfl rfl rfl rfl rfl rfl rfl ⟨rfl, rfl, rfl, rfl, rfl⟩ rfl rfl rfl rfl rfl (by kernel_rfl) Tryd.func6 (by kernel_rfl)
    (of_decide_eq_true (by kernel_rfl)) (by unfold Func.isWrapper; first | (rw [if_pos (by decide +kernel)]; kernel_rfl) | (rw [if_neg (by decide +kernel)]; exact ⟨rfl, rfl⟩))
    (fun os started H enc _ => lifted os started H enc)
theorem proved : Rows.FnCosineCardSaid :=
  Claim7.holds_tied_plain_at .later [] [.data, .data, .data] true (true, "ea8374f85c4f9e5ce2e7bf72290c1c4fbe94408adb395a757af16f730ae64a0b") false
    over (fun _ h => by cases h) (by kernel_rfl) (fun _ h => by cases h) fnCosine_row_tie rfl ⟨rfl, rfl⟩ (by kernel_rfl) rfl
    (fun f fn hf hfn => by
      obtain rfl : f = 6 := Option.some.inj ((show Tryd.prog.funcNamed "loop.example/robotcell/laws.FnCosine" = some 6 by kernel_rfl).symm.trans hf) |>.symm
      obtain rfl : fn = Tryd.f6 := (Option.some.inj (Tryd.func6.symm.trans hfn)).symm
      exact ⟨by kernel_rfl, fun j t ht => by
        rw [Tryd.params6] at ht
        have hm : t ∈ [24] := by simpa using Array.mem_of_getElem? ht
        have hall : ([24].all fun u => !Tryd.prog.wantsStandIn u) = true := by kernel_rfl
        exact (show Tryd.prog.wantsStandIn t = false by simpa using List.all_eq_true.1 hall t hm)⟩)
    (by kernel_rfl)
#print axioms proved
end Go.Proofs.YtlngkgpbmadmcaaDoor.fnCosine
