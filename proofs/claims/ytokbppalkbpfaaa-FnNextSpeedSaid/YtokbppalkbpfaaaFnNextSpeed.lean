/- Proves that the law FnNextSpeed returns true for every input. Conditions: none. -/
import Derived.Test.YtokbppalkbpfaaaRows
import Derived.Test.YtokbppalkbpfaaaMpMath
import Derived.Test.YtokbppalkbpfaaaDrawMp
import Derived.Test.YtokbppalkbpfaaaAlive
import Derived.ChangeOld
import Derived.ShutString
import Derived.Lib.SmallJoins
namespace Go.Proofs.Ytokbppalkbpfaaa.fnNextSpeed
open Go.ChangeShapes Go.WideShapes Go.ChangeAt Go.RowKit
set_option linter.unusedVariables false
set_option maxHeartbeats 4000000 in
theorem walk (a0 : Option Addr) (len0 cap0 : Nat) (z0 : List Int) (w : World) (w0 : IsRow .u8 w a0 len0 cap0 z0) :
    Calls Try.prog 9 #[.slice a0 len0 cap0] w fun e w' => e = .returned (.bool true) ∧ Below w.heap.size w w' := by
  by_cases hlen : (1048576 : Int) < len0
  · go_enter Try.func9, Try.ntmps9
    go_wp2
    go_ret
    exact ⟨rfl, Below.refl _ _⟩
  · go_enter Try.func9, Try.ntmps9
    go_wp2_with fail
    refine (draw_next a0 len0 cap0 z0 _ w0).mono ?_
    rintro e wd ⟨⟨v, d, t, r, rfl, ⟨v1, v2⟩, ⟨d1, d2⟩, ⟨t1, t2⟩, ⟨r1, r2⟩⟩, hb⟩
    clear w0 hlen
    by_cases h : M.okIn v d t r
    · obtain ⟨n0, n1, n2, n3⟩ := M.NS_spec h
      have e1 := M.next_yes h
      obtain ⟨⟨⟨a1, a2⟩, ⟨b1, b2⟩⟩, ⟨⟨a3, a4⟩, ⟨a5, a6⟩⟩⟩ := id h
      have e2 : M.stop (M.NS v d t r) r = M.SD (M.NS v d t r) r := M.stop_yes ⟨⟨n0, by omega⟩, ⟨a5, a6⟩⟩
      have e3 : M.NS v d t r < min t (v + r) → d < (M.NS v d t r + 1) + M.stop (M.NS v d t r + 1) r := fun q => by
        rw [M.stop_yes ⟨⟨by omega, by omega⟩, ⟨a5, a6⟩⟩]; exact n3 _ (by omega) (by omega)
      obtain ⟨s1, s2⟩ := M.SD_bd (M.NS v d t r) r (by omega) (by omega)
      have s3 : M.NS v d t r < min t (v + r) → 0 ≤ M.stop (M.NS v d t r + 1) r ∧ M.stop (M.NS v d t r + 1) r ≤ 40000 := fun q => by
        rw [M.stop_yes ⟨⟨by omega, by omega⟩, ⟨a5, a6⟩⟩]; exact M.SD_bd _ _ (by omega) (by omega)
      clear n3 h
      generalize M.NS v d t r = N at *
      generalize M.SD N r = S at *
      by_cases hmin : t ≤ v + r
      · have em : min t (v + r) = t := by omega
        rw [em] at n1 e3 s3
        clear em
        by_cases hN : N = t
        · clear e3 s3
          by_cases hz : N = 0
          · omega
          · have hz2 : (N == 0) = false := by simp [hz]
            have hN2 : (N == t) = true := by simp [hN]
            clear hN hz
            go_wp2_with (first | (go_at_call 17; refine (impl_next _ _ _ _ _).mono ?_; rintro e w' ⟨rfl, rfl⟩) | (go_at_call 16; refine (spec_next _ _ _ _ _).mono ?_; rintro e w' ⟨rfl, rfl⟩) | (go_at_call 15; refine (impl_stop _ _ _).mono ?_; rintro e w' ⟨rfl, rfl⟩) | (go_at_call 23; refine (alive _).mono ?_; rintro e w' ⟨rfl, rfl⟩))
            go_ret
            exact ⟨ret_bool (by simp), hb⟩
        · have e4 := e3 (by omega)
          obtain ⟨s4, s5⟩ := s3 (by omega)
          clear e3 s3
          have hN2 : (N == t) = false := by simp [hN]
          clear hN
          obtain ⟨U, e5⟩ : ∃ U, M.stop (N + 1) r = U := ⟨_, rfl⟩
          rw [e5] at e4 s4 s5
          by_cases hz : N = 0
          · have hz2 : (N == 0) = true := by simp [hz]
            clear hz
            go_wp2_with (first | (go_at_call 17; refine (impl_next _ _ _ _ _).mono ?_; rintro e w' ⟨rfl, rfl⟩) | (go_at_call 16; refine (spec_next _ _ _ _ _).mono ?_; rintro e w' ⟨rfl, rfl⟩) | (go_at_call 15; refine (impl_stop _ _ _).mono ?_; rintro e w' ⟨rfl, rfl⟩) | (go_at_call 23; refine (alive _).mono ?_; rintro e w' ⟨rfl, rfl⟩))
            go_ret
            exact ⟨ret_bool (by simp), hb⟩
          · have hz2 : (N == 0) = false := by simp [hz]
            clear hz
            go_wp2_with (first | (go_at_call 17; refine (impl_next _ _ _ _ _).mono ?_; rintro e w' ⟨rfl, rfl⟩) | (go_at_call 16; refine (spec_next _ _ _ _ _).mono ?_; rintro e w' ⟨rfl, rfl⟩) | (go_at_call 15; refine (impl_stop _ _ _).mono ?_; rintro e w' ⟨rfl, rfl⟩) | (go_at_call 23; refine (alive _).mono ?_; rintro e w' ⟨rfl, rfl⟩))
            go_ret
            exact ⟨ret_bool (by simp), hb⟩
      · have em : min t (v + r) = v + r := by omega
        rw [em] at n1 e3 s3
        clear em
        by_cases hN : N = v + r
        · clear e3 s3
          by_cases hz : N = 0
          · omega
          · have hz2 : (N == 0) = false := by simp [hz]
            have hN2 : (N == v + r) = true := by simp [hN]
            clear hN hz
            go_wp2_with (first | (go_at_call 17; refine (impl_next _ _ _ _ _).mono ?_; rintro e w' ⟨rfl, rfl⟩) | (go_at_call 16; refine (spec_next _ _ _ _ _).mono ?_; rintro e w' ⟨rfl, rfl⟩) | (go_at_call 15; refine (impl_stop _ _ _).mono ?_; rintro e w' ⟨rfl, rfl⟩) | (go_at_call 23; refine (alive _).mono ?_; rintro e w' ⟨rfl, rfl⟩))
            go_ret
            exact ⟨ret_bool (by simp), hb⟩
        · have e4 := e3 (by omega)
          obtain ⟨s4, s5⟩ := s3 (by omega)
          clear e3 s3
          have hN2 : (N == v + r) = false := by simp [hN]
          clear hN
          obtain ⟨U, e5⟩ : ∃ U, M.stop (N + 1) r = U := ⟨_, rfl⟩
          rw [e5] at e4 s4 s5
          by_cases hz : N = 0
          · have hz2 : (N == 0) = true := by simp [hz]
            clear hz
            go_wp2_with (first | (go_at_call 17; refine (impl_next _ _ _ _ _).mono ?_; rintro e w' ⟨rfl, rfl⟩) | (go_at_call 16; refine (spec_next _ _ _ _ _).mono ?_; rintro e w' ⟨rfl, rfl⟩) | (go_at_call 15; refine (impl_stop _ _ _).mono ?_; rintro e w' ⟨rfl, rfl⟩) | (go_at_call 23; refine (alive _).mono ?_; rintro e w' ⟨rfl, rfl⟩))
            go_ret
            exact ⟨ret_bool (by simp), hb⟩
          · have hz2 : (N == 0) = false := by simp [hz]
            clear hz
            go_wp2_with (first | (go_at_call 17; refine (impl_next _ _ _ _ _).mono ?_; rintro e w' ⟨rfl, rfl⟩) | (go_at_call 16; refine (spec_next _ _ _ _ _).mono ?_; rintro e w' ⟨rfl, rfl⟩) | (go_at_call 15; refine (impl_stop _ _ _).mono ?_; rintro e w' ⟨rfl, rfl⟩) | (go_at_call 23; refine (alive _).mono ?_; rintro e w' ⟨rfl, rfl⟩))
            go_ret
            exact ⟨ret_bool (by simp), hb⟩
    · have e1 := M.next_no h
      clear h
      go_wp2_with (first | (go_at_call 17; refine (impl_next _ _ _ _ _).mono ?_; rintro e w' ⟨rfl, rfl⟩) | (go_at_call 16; refine (spec_next _ _ _ _ _).mono ?_; rintro e w' ⟨rfl, rfl⟩) | (go_at_call 15; refine (impl_stop _ _ _).mono ?_; rintro e w' ⟨rfl, rfl⟩) | (go_at_call 23; refine (alive _).mono ?_; rintro e w' ⟨rfl, rfl⟩))
      go_ret
      exact ⟨ret_bool (by simp), hb⟩
theorem own : ownKnob Try.prog.godebug = none := by kernel_rfl
theorem laidOut : laidOutB Try.prog = true := by kernel_rfl
set_option maxRecDepth 100000 in
theorem lifted (os : Os) (started : os.Started) (H : Type) (enc : TypeId × Value → H) :
    ReturnsInHanded {} Try.checked os 9 .any (Rows.fnNextSpeedSpec.pre6 enc Try.prog Try.f9 Rows.fnNextSpeedRow.domain false) (Rows.fnNextSpeedSpec.post enc Try.prog Try.f9 false true false false) := by
  refine returnsInHanded_of_change (C := Try.checked) own started (by kernel_rfl) Try.func9
    (ChangeSpec.witness6 (enc := enc) (C := Try.checked) false ⟨#[], #[.slice none 0 0], []⟩ 8 (by kernel_rfl) (by kernel_rfl) (by kernel_rfl) (by kernel_rfl)) ?_
  intro W base args ds gs before hval0 hW hcnd _
  have hval : ∀ (j : Nat) t v, Try.f9.params[j]? = some t → args[j]? = some v → Value.okWide Try.prog W .any base t v := hval0
  have hW' := hW
  obtain ⟨p, q, hA0, hV, rfl, hfz, hnd⟩ := hW
  have hA : DataW.TrodAll enc Try.prog W 0 (fun _ => true) true Try.f9.params.toList args.toList ds p := hA0
  rw [Try.params9] at hA hval
  obtain ⟨v0_, vs0, d0, ds0, p0, q0, hargs, rfl, rfl, h0, r0⟩ := trodAll_cons hA
  obtain ⟨rfl, rfl, rfl⟩ := trodAll_nil r0
  obtain rfl : args = #[v0_] := by cases args; simp_all
  obtain ⟨rfl, rfl⟩ := trodVars_none hV
  obtain ⟨a0, len0, cap0, rfl⟩ := okWide_slice Try.underlying30 (hval 0 30 v0_ rfl rfl)
  have k0 := h0
  have lt0 : ∀ x ∈ p0, x.block < W.heap.size := by obtain ⟨m, hm⟩ := k0; exact DataW.trod_lt m _ _ _ hm
  obtain ⟨z0, w0⟩ : ∃ zs, IsRow .u8 W a0 len0 cap0 zs := by
    obtain ⟨fuel, hf⟩ := h0
    rcases open_ints Try.underlying30 Try.underlying5 (by kernel_rfl) hf with ⟨hcs, _⟩ | ⟨x, l, c, zs, hcs, _, hl, hm, hz, _, hcell, hwz⟩
    · simp [Value.cells] at hcs
      obtain ⟨rfl, rfl, rfl⟩ := hcs
      exact ⟨[], .inl ⟨rfl, rfl, rfl, rfl⟩⟩
    · simp [Value.cells] at hcs
      obtain ⟨rfl, rfl, rfl⟩ := hcs
      exact ⟨zs, .inr ⟨_, rfl, hl, hm, by simpa using hz, hcell, hwz⟩⟩
  clear hA0 hval0
  refine (walk a0 len0 cap0 z0 W w0).mono fun e W' ⟨he, bel⟩ => ?_
  subst he
  exact ⟨_, rfl, _, _, _, [], _, [], hW', trodAll_mk1 (shut_bool Try.underlying4 _), (trodAll_cons_mk (Below.trod laidOut (by kernel_rfl) (of_decide_eq_true (by kernel_rfl)) k0 bel lt0) trodAll_mk0), rfl, bel.frame _, fun h => by cases h⟩
theorem over : Rows.fnNextSpeedRow.holds Try.pinned (OpenSpec.ofChange Rows.fnNextSpeedSpec) :=
  OpenClaim.holds_of_wide 9 Try.f9 rfl rfl rfl rfl rfl rfl rfl ⟨rfl, rfl, rfl, rfl, rfl⟩ rfl rfl rfl rfl rfl (by kernel_rfl) Try.func9 (by kernel_rfl)
    (of_decide_eq_true (by kernel_rfl)) (by unfold Func.isWrapper; first | (rw [if_pos (by decide +kernel)]; kernel_rfl) | (rw [if_neg (by decide +kernel)]; exact ⟨rfl, rfl⟩))
    (fun os started H enc _ => lifted os started H enc)
theorem proved : Rows.FnNextSpeedSaid := over
#print axioms proved
end Go.Proofs.Ytokbppalkbpfaaa.fnNextSpeed
