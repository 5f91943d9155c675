/- Proves that the law FnProfileTime returns true for every input. Conditions: none. -/
import Derived.Test.YtokbppalkbpfaaaRows
import Derived.Test.YtokbppalkbpfaaaPtime
import Derived.Test.YtokbppalkbpfaaaDrawMp
import Derived.Test.YtokbppalkbpfaaaAlive
import Derived.ChangeOld
import Derived.ShutString
import Derived.Lib.SmallJoins
namespace Go.Proofs.Ytokbppalkbpfaaa.fnProfileTime
open Go.ChangeShapes Go.WideShapes Go.ChangeAt Go.RowKit
set_option linter.unusedVariables false
theorem bel_trans {w a b : World} (h : Below w.heap.size w a) (k : Hid (Below a.heap.size a b)) : Below w.heap.size w b := h.trans (k.out.mono h.size)
set_option maxHeartbeats 4000000 in
theorem walk (a0 : Option Addr) (len0 cap0 : Nat) (z0 : List Int) (w : World) (w0 : IsRow .u8 w a0 len0 cap0 z0) :
    Calls Try.prog 12 #[.slice a0 len0 cap0] w fun e w' => e = .returned (.bool true) ∧ Below w.heap.size w w' := by
  by_cases hlen : (1048576 : Int) < len0
  · go_enter Try.func12, Try.ntmps12
    go_wp2
    go_ret
    exact ⟨rfl, Below.refl _ _⟩
  · go_enter Try.func12, Try.ntmps12
    go_wp2_with fail
    refine (draw_pt a0 len0 cap0 z0 _ w0).mono ?_
    rintro e wd ⟨⟨d, t, r, rfl, ⟨d1, d2⟩, ⟨t1, t2⟩, ⟨r1, r2⟩⟩, hbd⟩
    have hq := Lib.hid hbd
    clear w0 hlen hbd
    by_cases h : M.okProf d t r
    · have e1 := M.ptime_yes h
      have h2 : M.okProf 0 t r := ⟨by omega, h.2⟩
      have e2 : M.ptime 0 t r = 0 := by rw [M.ptime_yes h2]; have := (M.prof_facts h2).2.2.1; omega
      obtain ⟨_, _, f1, f2⟩ := M.prof_facts h
      have f3 := M.prof_len d t r
      have f4 : ((M.prof d t r).length : Int) * t ≤ 5000 * 200 := Int.mul_le_mul (by omega) (by have := h.2.1; omega) (by omega) (by omega)
      obtain ⟨⟨a1, a2⟩, ⟨⟨a3, a4⟩, ⟨a5, a6⟩⟩⟩ := h
      clear h2
      have e3 : IntKind.i64.wrap (((M.prof d t r).length : Int) * t) = ((M.prof d t r).length : Int) * t := IntWalk.i64_in _ (by omega)
      go_wp2_with (first | (go_at_call 25; refine (impl_ptime _ _ _ _).mono ?_; rintro e wn ⟨rfl, g⟩; have hb := Lib.hid g; clear g) | (go_at_call 24; refine (spec_ptime _ _ _ _).mono ?_; rintro e wn ⟨rfl, g⟩; have hb := Lib.hid g; clear g) | (go_at_call 27; refine (impl_prof _ _ _ _).mono ?_; rintro e wn ⟨v, rfl, ho, g⟩; have hb := Lib.hid g; obtain ⟨p, c, rfl, _⟩ := ho.view; clear g ho) | (go_at_call 23; refine (alive _).mono ?_; rintro e w' ⟨rfl, rfl⟩))
      go_ret
      exact ⟨ret_bool (by simp), by repeat (first | (with_reducible exact hq.out) | (refine bel_trans ?_ (by with_reducible assumption)))⟩
    · have e1 := M.ptime_no h
      clear h
      go_wp2_with (first | (go_at_call 25; refine (impl_ptime _ _ _ _).mono ?_; rintro e wn ⟨rfl, g⟩; have hb := Lib.hid g; clear g) | (go_at_call 24; refine (spec_ptime _ _ _ _).mono ?_; rintro e wn ⟨rfl, g⟩; have hb := Lib.hid g; clear g) | (go_at_call 27; refine (impl_prof _ _ _ _).mono ?_; rintro e wn ⟨v, rfl, ho, g⟩; have hb := Lib.hid g; obtain ⟨p, c, rfl, _⟩ := ho.view; clear g ho) | (go_at_call 23; refine (alive _).mono ?_; rintro e w' ⟨rfl, rfl⟩))
      go_ret
      exact ⟨ret_bool (by simp), by repeat (first | (with_reducible exact hq.out) | (refine bel_trans ?_ (by with_reducible assumption)))⟩
theorem own : ownKnob Try.prog.godebug = none := by kernel_rfl
theorem laidOut : laidOutB Try.prog = true := by kernel_rfl
set_option maxRecDepth 100000 in
theorem lifted (os : Os) (started : os.Started) (H : Type) (enc : TypeId × Value → H) :
    ReturnsInHanded {} Try.checked os 12 .any (Rows.fnProfileTimeSpec.pre6 enc Try.prog Try.f12 Rows.fnProfileTimeRow.domain false) (Rows.fnProfileTimeSpec.post enc Try.prog Try.f12 false true false false) := by
  refine returnsInHanded_of_change (C := Try.checked) own started (by kernel_rfl) Try.func12
    (ChangeSpec.witness6 (enc := enc) (C := Try.checked) false ⟨#[], #[.slice none 0 0], []⟩ 8 (by kernel_rfl) (by kernel_rfl) (by kernel_rfl) (by kernel_rfl)) ?_
  intro W base args ds gs before hval0 hW hcnd _
  have hval : ∀ (j : Nat) t v, Try.f12.params[j]? = some t → args[j]? = some v → Value.okWide Try.prog W .any base t v := hval0
  have hW' := hW
  obtain ⟨p, q, hA0, hV, rfl, hfz, hnd⟩ := hW
  have hA : DataW.TrodAll enc Try.prog W 0 (fun _ => true) true Try.f12.params.toList args.toList ds p := hA0
  rw [Try.params12] at hA hval
  obtain ⟨v0_, vs0, d0, ds0, p0, q0, hargs, rfl, rfl, h0, r0⟩ := trodAll_cons hA
  obtain ⟨rfl, rfl, rfl⟩ := trodAll_nil r0
  obtain rfl : args = #[v0_] := by cases args; simp_all
  obtain ⟨rfl, rfl⟩ := trodVars_none hV
  obtain ⟨a0, len0, cap0, rfl⟩ := okWide_slice Try.underlying30 (hval 0 30 v0_ rfl rfl)
  have k0 := h0
  have lt0 : ∀ x ∈ p0, x.block < W.heap.size := by obtain ⟨m, hm⟩ := k0; exact DataW.trod_lt m _ _ _ hm
  obtain ⟨z0, w0⟩ : ∃ zs, IsRow .u8 W a0 len0 cap0 zs := by
    obtain ⟨fuel, hf⟩ := h0
    rcases open_ints Try.underlying30 Try.underlying5 (by kernel_rfl) hf with ⟨hcs, _⟩ | ⟨x, l, c, zs, hcs, _, hl, hm, hz, _, hcell, hwz⟩
    · simp [Value.cells] at hcs
      obtain ⟨rfl, rfl, rfl⟩ := hcs
      exact ⟨[], .inl ⟨rfl, rfl, rfl, rfl⟩⟩
    · simp [Value.cells] at hcs
      obtain ⟨rfl, rfl, rfl⟩ := hcs
      exact ⟨zs, .inr ⟨_, rfl, hl, hm, by simpa using hz, hcell, hwz⟩⟩
  clear hA0 hval0
  refine (walk a0 len0 cap0 z0 W w0).mono fun e W' ⟨he, bel⟩ => ?_
  subst he
  exact ⟨_, rfl, _, _, _, [], _, [], hW', trodAll_mk1 (shut_bool Try.underlying4 _), (trodAll_cons_mk (Below.trod laidOut (by kernel_rfl) (of_decide_eq_true (by kernel_rfl)) k0 bel lt0) trodAll_mk0), rfl, bel.frame _, fun h => by cases h⟩
theorem over : Rows.fnProfileTimeRow.holds Try.pinned (OpenSpec.ofChange Rows.fnProfileTimeSpec) :=
  OpenClaim.holds_of_wide 12 Try.f12 rfl rfl rfl rfl rfl rfl rfl ⟨rfl, rfl, rfl, rfl, rfl⟩ rfl rfl rfl rfl rfl (by kernel_rfl) Try.func12 (by kernel_rfl)
    (of_decide_eq_true (by kernel_rfl)) (by unfold Func.isWrapper; first | (rw [if_pos (by decide +kernel)]; kernel_rfl) | (rw [if_neg (by decide +kernel)]; exact ⟨rfl, rfl⟩))
    (fun os started H enc _ => lifted os started H enc)
theorem proved : Rows.FnProfileTimeSaid := over
#print axioms proved
end Go.Proofs.Ytokbppalkbpfaaa.fnProfileTime
