/- Proves that the law FnTurnSteps returns true for every input. Conditions: none. -/
import Derived.Test.YtidjmccehemclaaRows
import Derived.Test.YtidjmccehemclaaDrawTt
import Derived.Test.YtidjmccehemclaaAlive
import Derived.ChangeOld
import Derived.ShutString
import Derived.Lib.SmallJoins
namespace Go.Proofs.Ytidjmccehemclaa.fnTurnSteps
open Go.ChangeShapes Go.WideShapes Go.ChangeAt Go.RowKit
set_option linter.unusedVariables false
/-- after k turns the direction is v -/
def TS (a b s : Int) (k : Nat) (v : Int) : Prop := (0 ≤ v ∧ v < 360) ∧ M.ab v b = max 0 (M.ab a b - k * s)
theorem TS_zero (a b s : Int) : TS a b s 0 (a % 360) := ⟨⟨by omega, by omega⟩, by unfold M.ab; simp; omega⟩
theorem steps_lt {f s : Int} {k : Nat} (hs : 1 ≤ s) (h : (k : Int) < (f + s - 1) / s) : k * s < f := by
  have h1 : (k : Int) + 1 ≤ (f + s - 1) / s := by omega
  have h2 := (Int.le_ediv_iff_mul_le (by omega : 0 < s)).1 h1
  rw [Int.add_mul] at h2
  omega
theorem steps_ge {f s : Int} {k : Nat} (hs : 1 ≤ s) (h : ¬ (k : Int) < (f + s - 1) / s) : f ≤ k * s := by
  have h1 : (f + s - 1) / s < (k : Int) + 1 := by omega
  have h2 := (Int.ediv_lt_iff_lt_mul (by omega : 0 < s)).1 h1
  rw [Int.add_mul] at h2
  omega
theorem TS_ne {a b s v : Int} {k : Nat} (hs : 1 ≤ s) (h : TS a b s k v) (hlt : (k : Int) < (M.ab a b + s - 1) / s) : (v == b % 360) = false := by
  have := steps_lt hs hlt
  obtain ⟨_, h2⟩ := h
  simp
  intro e
  rw [e] at h2
  have : M.ab (b % 360) b = 0 := by unfold M.ab; omega
  omega
theorem TS_succ {a b s v : Int} {k : Nat} (hs : 1 ≤ s) (hs2 : s ≤ 180) (h : TS a b s k v) (hlt : (k : Int) < (M.ab a b + s - 1) / s) : TS a b s (k + 1) (M.tt v b s) := by
  have h0 := steps_lt hs hlt
  obtain ⟨_, h2⟩ := h
  refine ⟨M.tt_bd v b s (by omega) hs2, ?_⟩
  rw [M.tt_far v b s (by omega) hs2, h2]
  have : ((k + 1 : Nat) : Int) * s = k * s + s := by rw [Int.natCast_add, Int.add_mul]; simp
  rw [this]
  omega
theorem TS_end {a b s v : Int} {k : Nat} (hs : 1 ≤ s) (h : TS a b s k v) (hge : ¬ (k : Int) < (M.ab a b + s - 1) / s) : v = b % 360 := by
  have h0 := steps_ge hs hge
  obtain ⟨⟨h1, h2⟩, h3⟩ := h
  have : M.ab v b = 0 := by omega
  unfold M.ab at this
  omega
theorem steps_le {f s : Int} (hs : 1 ≤ s) (h0 : 0 ≤ f) (h : f ≤ 180) : 0 ≤ (f + s - 1) / s ∧ (f + s - 1) / s ≤ 180 := by
  refine ⟨Int.ediv_nonneg (by omega) (by omega), ?_⟩
  have : (f + s - 1) / s < 181 := by
    rw [Int.ediv_lt_iff_lt_mul (by omega)]
    have : 181 * s = 180 * s + s := by omega
    have : 180 * 1 ≤ 180 * s := by omega
    omega
  omega
set_option maxHeartbeats 1000000 in
theorem walk (a0 : Option Addr) (len0 cap0 : Nat) (z0 : List Int) (w : World) (w0 : IsRow .u8 w a0 len0 cap0 z0) :
    Calls Try.prog 10 #[.slice a0 len0 cap0] w fun e w' => e = .returned (.bool true) ∧ Below w.heap.size w w' := by
  by_cases hlen : (1048576 : Int) < len0
  · go_enter Try.func10, Try.ntmps10
    go_wp2
    go_ret
    exact ⟨rfl, Below.refl _ _⟩
  · go_enter Try.func10, Try.ntmps10
    go_wp2_with fail
    refine (draw_tt a0 len0 cap0 z0 _ w0).mono ?_
    rintro e w1 ⟨⟨a, b, s, rfl⟩, b1⟩
    by_cases hs : s < 1
    · go_wp2_with (first | (go_at_call 17; refine (spec_tt _ _ _ _).mono ?_; rintro e w' ⟨rfl, rfl⟩) | (go_at_call 18; refine (impl_tt _ _ _ _).mono ?_; rintro e w' ⟨rfl, rfl⟩) | (go_at_call 20; refine (alive _).mono ?_; rintro e w' ⟨rfl, rfl⟩))
      go_ret
      exact ⟨rfl, b1⟩
    · by_cases hs2 : 180 < s
      · go_wp2_with (first | (go_at_call 17; refine (spec_tt _ _ _ _).mono ?_; rintro e w' ⟨rfl, rfl⟩) | (go_at_call 18; refine (impl_tt _ _ _ _).mono ?_; rintro e w' ⟨rfl, rfl⟩) | (go_at_call 20; refine (alive _).mono ?_; rintro e w' ⟨rfl, rfl⟩))
        go_ret
        exact ⟨rfl, b1⟩
      · obtain ⟨h3, h4⟩ := M.ab_bd a b
        go_wp2_with (first | (go_at_call 17; refine (spec_tt _ _ _ _).mono ?_; rintro e w' ⟨rfl, rfl⟩) | (go_at_call 18; refine (impl_tt _ _ _ _).mono ?_; rintro e w' ⟨rfl, rfl⟩) | (go_at_call 15; refine (impl_ab _ _ _).mono ?_; rintro e w' ⟨rfl, rfl⟩) | (go_at_call 13; refine (impl_deg _ _).mono ?_; rintro e w' ⟨rfl, rfl⟩))
        obtain ⟨q1, q2⟩ := steps_le (f := M.ab a b) (s := s) (by omega) h3 h4
        clear hlen
        go_loop [8, 9] (fun x i => ∃ (k : Nat) (v : Int), i = .int .i64 k ∧ x = .int .i64 v ∧ TS a b s k v) (fun _ i => (182 - intOf i).toNat)
        case atStart => exact ⟨0, a % 360, rfl, rfl, TS_zero a b s⟩
        case round =>
          obtain ⟨k, v, rfl, rfl, hts⟩ := hrel
          by_cases hlt : (k : Int) < (M.ab a b + s - 1) / s
          · have e1 := TS_ne (by omega) hts hlt
            have e2 := Lib.hid (TS_succ (by omega) (by omega) hts hlt)
            have e3 : (M.tt v b s) < 360 := (M.tt_bd v b s (by omega) (by omega)).2
            clear hts
            go_wp2_with (first | (go_at_call 18; refine (impl_tt _ _ _ _).mono ?_; rintro e w' ⟨rfl, rfl⟩) | (go_at_call 13; refine (impl_deg _ _).mono ?_; rintro e w' ⟨rfl, rfl⟩))
            go_round
            case rel => exact ⟨k + 1, _, by go_num, rfl, e2.out⟩
            case measure => simp [intOf]; omega
          · have e1 := TS_end (by omega) hts hlt
            have e2 : (v == b % 360) = true := by simp [e1]
            clear hts e1
            go_wp2_with (first | (go_at_call 13; refine (impl_deg _ _).mono ?_; rintro e w' ⟨rfl, rfl⟩))
            go_ret
            exact ⟨ret_bool (by simp), b1⟩
theorem own : ownKnob Try.prog.godebug = none := by kernel_rfl
theorem laidOut : laidOutB Try.prog = true := by kernel_rfl
set_option maxRecDepth 100000 in
theorem lifted (os : Os) (started : os.Started) (H : Type) (enc : TypeId × Value → H) :
    ReturnsInHanded {} Try.checked os 10 .any (Rows.fnTurnStepsSpec.pre6 enc Try.prog Try.f10 Rows.fnTurnStepsRow.domain false) (Rows.fnTurnStepsSpec.post enc Try.prog Try.f10 false true false false) := by
  refine returnsInHanded_of_change (C := Try.checked) own started (by kernel_rfl) Try.func10
    (ChangeSpec.witness6 (enc := enc) (C := Try.checked) false ⟨#[], #[.slice none 0 0], []⟩ 8 (by kernel_rfl) (by kernel_rfl) (by kernel_rfl) (by kernel_rfl)) ?_
  intro W base args ds gs before hval0 hW hcnd _
  have hval : ∀ (j : Nat) t v, Try.f10.params[j]? = some t → args[j]? = some v → Value.okWide Try.prog W .any base t v := hval0
  have hW' := hW
  obtain ⟨p, q, hA0, hV, rfl, hfz, hnd⟩ := hW
  have hA : DataW.TrodAll enc Try.prog W 0 (fun _ => true) true Try.f10.params.toList args.toList ds p := hA0
  rw [Try.params10] at hA hval
  obtain ⟨v0_, vs0, d0, ds0, p0, q0, hargs, rfl, rfl, h0, r0⟩ := trodAll_cons hA
  obtain ⟨rfl, rfl, rfl⟩ := trodAll_nil r0
  obtain rfl : args = #[v0_] := by cases args; simp_all
  obtain ⟨rfl, rfl⟩ := trodVars_none hV
  obtain ⟨a0, len0, cap0, rfl⟩ := okWide_slice Try.underlying27 (hval 0 27 v0_ rfl rfl)
  have k0 := h0
  have lt0 : ∀ x ∈ p0, x.block < W.heap.size := by obtain ⟨m, hm⟩ := k0; exact DataW.trod_lt m _ _ _ hm
  obtain ⟨z0, w0⟩ : ∃ zs, IsRow .u8 W a0 len0 cap0 zs := by
    obtain ⟨fuel, hf⟩ := h0
    rcases open_ints Try.underlying27 Try.underlying5 (by kernel_rfl) hf with ⟨hcs, _⟩ | ⟨x, l, c, zs, hcs, _, hl, hm, hz, _, hcell, hwz⟩
    · simp [Value.cells] at hcs
      obtain ⟨rfl, rfl, rfl⟩ := hcs
      exact ⟨[], .inl ⟨rfl, rfl, rfl, rfl⟩⟩
    · simp [Value.cells] at hcs
      obtain ⟨rfl, rfl, rfl⟩ := hcs
      exact ⟨zs, .inr ⟨_, rfl, hl, hm, by simpa using hz, hcell, hwz⟩⟩
  clear hA0 hval0
  refine (walk a0 len0 cap0 z0 W w0).mono fun e W' ⟨he, bel⟩ => ?_
  subst he
  exact ⟨_, rfl, _, _, _, [], _, [], hW', trodAll_mk1 (shut_bool Try.underlying4 _), (trodAll_cons_mk (Below.trod laidOut (by kernel_rfl) (of_decide_eq_true (by kernel_rfl)) k0 bel lt0) trodAll_mk0), rfl, bel.frame _, fun h => by cases h⟩
theorem over : Rows.fnTurnStepsRow.holds Try.pinned (OpenSpec.ofChange Rows.fnTurnStepsSpec) :=
  OpenClaim.holds_of_wide 10 Try.f10 rfl rfl rfl rfl rfl rfl rfl ⟨rfl, rfl, rfl, rfl, rfl⟩ rfl rfl rfl rfl rfl (by kernel_rfl) Try.func10 (by kernel_rfl)
    (of_decide_eq_true (by kernel_rfl)) (by unfold Func.isWrapper; first | (rw [if_pos (by decide +kernel)]; kernel_rfl) | (rw [if_neg (by decide +kernel)]; exact ⟨rfl, rfl⟩))
    (fun os started H enc _ => lifted os started H enc)
theorem proved : Rows.FnTurnStepsSaid := over
#print axioms proved
end Go.Proofs.Ytidjmccehemclaa.fnTurnSteps
