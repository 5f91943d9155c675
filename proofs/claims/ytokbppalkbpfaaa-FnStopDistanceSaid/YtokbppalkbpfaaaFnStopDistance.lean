/- Proves that the law FnStopDistance returns true for every input. Conditions: none. -/
import Derived.Test.YtokbppalkbpfaaaRows
import Derived.Test.YtokbppalkbpfaaaStop
import Derived.Test.YtokbppalkbpfaaaDrawProf
import Derived.Test.YtokbppalkbpfaaaAlive
import Derived.ChangeOld
import Derived.ShutString
import Derived.Lib.SmallJoins
namespace Go.Proofs.Ytokbppalkbpfaaa.fnStopDistance
open Go.ChangeShapes Go.WideShapes Go.ChangeAt Go.RowKit
set_option linter.unusedVariables false
theorem next_eq {v r : Int} (h1 : 0 ≤ v) (h2 : v ≤ 200) (h3 : 1 ≤ r) (h4 : r ≤ 50) : M.SD v r = max 0 (v - r) + M.stop (max 0 (v - r)) r := by
  rw [M.stop_yes ⟨⟨by omega, by omega⟩, ⟨h3, h4⟩⟩]
  by_cases h : r < v
  · rw [M.SD_pos v r h3 h2 h, show max 0 (v - r) = v - r by omega]
  · rw [M.SD_neg v r h3 h2 (by omega), show max 0 (v - r) = 0 by omega, M.SD_neg 0 r h3 (by omega) (by omega)]; rfl
theorem up {v r : Int} (h1 : 0 ≤ v) (h2 : v < 200) (h3 : 1 ≤ r) (h4 : r ≤ 50) : M.SD v r ≤ M.stop (v + 1) r := by
  rw [M.stop_yes ⟨⟨by omega, by omega⟩, ⟨h3, h4⟩⟩]
  exact M.SD_mono _ _ _ _ (by omega) (Int.le_refl _)
theorem down {v r : Int} (h1 : 0 ≤ v) (h2 : v ≤ 200) (h3 : 1 ≤ r) (h4 : r < 50) : M.stop v (r + 1) ≤ M.SD v r := by
  rw [M.stop_yes ⟨⟨by omega, by omega⟩, ⟨by omega, by omega⟩⟩]
  exact M.SD_mono _ _ _ _ (Int.le_refl _) (by omega)
set_option maxHeartbeats 1000000 in
theorem walk (a0 : Option Addr) (len0 cap0 : Nat) (z0 : List Int) (w : World) (w0 : IsRow .u8 w a0 len0 cap0 z0) :
    Calls Try.prog 6 #[.slice a0 len0 cap0] w fun e w' => e = .returned (.bool true) ∧ Below w.heap.size w w' := by
  by_cases hlen : (1048576 : Int) < len0
  · go_enter Try.func6, Try.ntmps6
    go_wp2
    go_ret
    exact ⟨rfl, Below.refl _ _⟩
  · go_enter Try.func6, Try.ntmps6
    go_wp2_with fail
    refine (draw_stop a0 len0 cap0 z0 _ w0).mono ?_
    rintro e w1 ⟨⟨v, r, rfl, ⟨p1, p2⟩, ⟨p3, p4⟩⟩, b1⟩
    clear w0 hlen
    by_cases h : (0 ≤ v ∧ v ≤ 200) ∧ (1 ≤ r ∧ r ≤ 50)
    · have e0 : M.stop v r = M.SD v r := M.stop_yes h
      obtain ⟨⟨h1, h2⟩, ⟨h3, h4⟩⟩ := h
      obtain ⟨h5, h6⟩ := M.SD_bd v r (by omega) h2
      have e1 := next_eq h1 h2 h3 h4
      by_cases hlt : r < v
      · rw [show max 0 (v - r) = v - r by omega] at e1
        have e2 : (M.SD v r == v - r + M.stop (v - r) r) = true := by rw [← e1]; simp
        have e3 : 0 ≤ M.stop (v - r) r := by rw [M.stop_yes ⟨⟨by omega, by omega⟩, ⟨h3, h4⟩⟩]; exact (M.SD_bd _ _ (by omega) (by omega)).1
        have e4 : M.stop (v - r) r ≤ 40000 := by omega
        clear e1
        by_cases hv : v = 200
        · have hv2 : (v == 200) = true := by simp [hv]
          clear hv
          by_cases hr : r = 50
          · have hr2 : (r == 50) = true := by simp [hr]
            clear hr
            go_wp2_with (first | (go_at_call 14; refine (spec_stop _ _ _).mono ?_; rintro e w' ⟨rfl, rfl⟩) | (go_at_call 15; refine (impl_stop _ _ _).mono ?_; rintro e w' ⟨rfl, rfl⟩))
            go_ret
            exact ⟨ret_bool (by simp), b1⟩
          · have d := down h1 h2 h3 (by omega)
            have hr2 : (r == 50) = false := by simp [hr]
            go_wp2_with (first | (go_at_call 14; refine (spec_stop _ _ _).mono ?_; rintro e w' ⟨rfl, rfl⟩) | (go_at_call 15; refine (impl_stop _ _ _).mono ?_; rintro e w' ⟨rfl, rfl⟩))
            go_ret
            exact ⟨ret_bool (by simp), b1⟩
        · have u := up h1 (by omega) h3 h4
          have hv2 : (v == 200) = false := by simp [hv]
          by_cases hr : r = 50
          · have hr2 : (r == 50) = true := by simp [hr]
            clear hr
            go_wp2_with (first | (go_at_call 14; refine (spec_stop _ _ _).mono ?_; rintro e w' ⟨rfl, rfl⟩) | (go_at_call 15; refine (impl_stop _ _ _).mono ?_; rintro e w' ⟨rfl, rfl⟩))
            go_ret
            exact ⟨ret_bool (by simp), b1⟩
          · have d := down h1 h2 h3 (by omega)
            have hr2 : (r == 50) = false := by simp [hr]
            go_wp2_with (first | (go_at_call 14; refine (spec_stop _ _ _).mono ?_; rintro e w' ⟨rfl, rfl⟩) | (go_at_call 15; refine (impl_stop _ _ _).mono ?_; rintro e w' ⟨rfl, rfl⟩))
            go_ret
            exact ⟨ret_bool (by simp), b1⟩
      · have e2 : M.SD v r = 0 := M.SD_neg v r h3 h2 (by omega)
        have e3 : M.stop 0 r = 0 := by rw [M.stop_yes ⟨⟨by omega, by omega⟩, ⟨h3, h4⟩⟩]; exact M.SD_neg 0 r h3 (by omega) (by omega)
        clear e1
        by_cases hv : v = 200
        · have hv2 : (v == 200) = true := by simp [hv]
          clear hv
          by_cases hr : r = 50
          · have hr2 : (r == 50) = true := by simp [hr]
            clear hr
            go_wp2_with (first | (go_at_call 14; refine (spec_stop _ _ _).mono ?_; rintro e w' ⟨rfl, rfl⟩) | (go_at_call 15; refine (impl_stop _ _ _).mono ?_; rintro e w' ⟨rfl, rfl⟩))
            go_ret
            exact ⟨ret_bool (by simp), b1⟩
          · have d : M.stop v (r + 1) ≤ 0 := by have := down h1 h2 h3 (show r < 50 by omega); omega
            have hr2 : (r == 50) = false := by simp [hr]
            go_wp2_with (first | (go_at_call 14; refine (spec_stop _ _ _).mono ?_; rintro e w' ⟨rfl, rfl⟩) | (go_at_call 15; refine (impl_stop _ _ _).mono ?_; rintro e w' ⟨rfl, rfl⟩))
            go_ret
            exact ⟨ret_bool (by simp), b1⟩
        · have u : 0 ≤ M.stop (v + 1) r := by have := up h1 (show v < 200 by omega) h3 h4; omega
          have hv2 : (v == 200) = false := by simp [hv]
          by_cases hr : r = 50
          · have hr2 : (r == 50) = true := by simp [hr]
            clear hr
            go_wp2_with (first | (go_at_call 14; refine (spec_stop _ _ _).mono ?_; rintro e w' ⟨rfl, rfl⟩) | (go_at_call 15; refine (impl_stop _ _ _).mono ?_; rintro e w' ⟨rfl, rfl⟩))
            go_ret
            exact ⟨ret_bool (by simp), b1⟩
          · have d : M.stop v (r + 1) ≤ 0 := by have := down h1 h2 h3 (show r < 50 by omega); omega
            have hr2 : (r == 50) = false := by simp [hr]
            go_wp2_with (first | (go_at_call 14; refine (spec_stop _ _ _).mono ?_; rintro e w' ⟨rfl, rfl⟩) | (go_at_call 15; refine (impl_stop _ _ _).mono ?_; rintro e w' ⟨rfl, rfl⟩))
            go_ret
            exact ⟨ret_bool (by simp), b1⟩
    · have e0 : M.stop v r = -1 := M.stop_no h
      clear h
      go_wp2_with (first | (go_at_call 14; refine (spec_stop _ _ _).mono ?_; rintro e w' ⟨rfl, rfl⟩) | (go_at_call 15; refine (impl_stop _ _ _).mono ?_; rintro e w' ⟨rfl, rfl⟩) | (go_at_call 23; refine (alive _).mono ?_; rintro e w' ⟨rfl, rfl⟩))
      go_ret
      exact ⟨rfl, b1⟩
theorem own : ownKnob Try.prog.godebug = none := by kernel_rfl
theorem laidOut : laidOutB Try.prog = true := by kernel_rfl
set_option maxRecDepth 100000 in
theorem lifted (os : Os) (started : os.Started) (H : Type) (enc : TypeId × Value → H) :
    ReturnsInHanded {} Try.checked os 6 .any (Rows.fnStopDistanceSpec.pre6 enc Try.prog Try.f6 Rows.fnStopDistanceRow.domain false) (Rows.fnStopDistanceSpec.post enc Try.prog Try.f6 false true false false) := by
  refine returnsInHanded_of_change (C := Try.checked) own started (by kernel_rfl) Try.func6
    (ChangeSpec.witness6 (enc := enc) (C := Try.checked) false ⟨#[], #[.slice none 0 0], []⟩ 8 (by kernel_rfl) (by kernel_rfl) (by kernel_rfl) (by kernel_rfl)) ?_
  intro W base args ds gs before hval0 hW hcnd _
  have hval : ∀ (j : Nat) t v, Try.f6.params[j]? = some t → args[j]? = some v → Value.okWide Try.prog W .any base t v := hval0
  have hW' := hW
  obtain ⟨p, q, hA0, hV, rfl, hfz, hnd⟩ := hW
  have hA : DataW.TrodAll enc Try.prog W 0 (fun _ => true) true Try.f6.params.toList args.toList ds p := hA0
  rw [Try.params6] at hA hval
  obtain ⟨v0_, vs0, d0, ds0, p0, q0, hargs, rfl, rfl, h0, r0⟩ := trodAll_cons hA
  obtain ⟨rfl, rfl, rfl⟩ := trodAll_nil r0
  obtain rfl : args = #[v0_] := by cases args; simp_all
  obtain ⟨rfl, rfl⟩ := trodVars_none hV
  obtain ⟨a0, len0, cap0, rfl⟩ := okWide_slice Try.underlying30 (hval 0 30 v0_ rfl rfl)
  have k0 := h0
  have lt0 : ∀ x ∈ p0, x.block < W.heap.size := by obtain ⟨m, hm⟩ := k0; exact DataW.trod_lt m _ _ _ hm
  obtain ⟨z0, w0⟩ : ∃ zs, IsRow .u8 W a0 len0 cap0 zs := by
    obtain ⟨fuel, hf⟩ := h0
    rcases open_ints Try.underlying30 Try.underlying5 (by kernel_rfl) hf with ⟨hcs, _⟩ | ⟨x, l, c, zs, hcs, _, hl, hm, hz, _, hcell, hwz⟩
    · simp [Value.cells] at hcs
      obtain ⟨rfl, rfl, rfl⟩ := hcs
      exact ⟨[], .inl ⟨rfl, rfl, rfl, rfl⟩⟩
    · simp [Value.cells] at hcs
      obtain ⟨rfl, rfl, rfl⟩ := hcs
      exact ⟨zs, .inr ⟨_, rfl, hl, hm, by simpa using hz, hcell, hwz⟩⟩
  clear hA0 hval0
  refine (walk a0 len0 cap0 z0 W w0).mono fun e W' ⟨he, bel⟩ => ?_
  subst he
  exact ⟨_, rfl, _, _, _, [], _, [], hW', trodAll_mk1 (shut_bool Try.underlying4 _), (trodAll_cons_mk (Below.trod laidOut (by kernel_rfl) (of_decide_eq_true (by kernel_rfl)) k0 bel lt0) trodAll_mk0), rfl, bel.frame _, fun h => by cases h⟩
theorem over : Rows.fnStopDistanceRow.holds Try.pinned (OpenSpec.ofChange Rows.fnStopDistanceSpec) :=
  OpenClaim.holds_of_wide 6 Try.f6 rfl rfl rfl rfl rfl rfl rfl ⟨rfl, rfl, rfl, rfl, rfl⟩ rfl rfl rfl rfl rfl (by kernel_rfl) Try.func6 (by kernel_rfl)
    (of_decide_eq_true (by kernel_rfl)) (by unfold Func.isWrapper; first | (rw [if_pos (by decide +kernel)]; kernel_rfl) | (rw [if_neg (by decide +kernel)]; exact ⟨rfl, rfl⟩))
    (fun os started H enc _ => lifted os started H enc)
theorem proved : Rows.FnStopDistanceSaid := over
#print axioms proved
end Go.Proofs.Ytokbppalkbpfaaa.fnStopDistance
