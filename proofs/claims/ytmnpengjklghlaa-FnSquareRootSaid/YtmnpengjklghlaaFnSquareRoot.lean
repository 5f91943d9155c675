/- Proves that the law FnSquareRoot returns true for every input. Conditions: none. -/
import Derived.Test.YtmnpengjklghlaaRows
import Derived.Test.YtmnpengjklghlaaRoot
import Derived.Test.YtmnpengjklghlaaDrawRoot
import Derived.Test.YtmnpengjklghlaaAlive
import Derived.ChangeOld
import Derived.ShutString
import Derived.Lib.SmallJoins
namespace Go.Proofs.Ytmnpengjklghlaa.fnSquareRoot
open Go.ChangeShapes Go.WideShapes Go.ChangeAt Go.RowKit
set_option linter.unusedVariables false
set_option maxHeartbeats 1000000 in
theorem walk (a0 : Option Addr) (len0 cap0 : Nat) (z0 : List Int) (w : World) (w0 : IsRow .u8 w a0 len0 cap0 z0) :
    Calls Try.prog 6 #[.slice a0 len0 cap0] w fun e w' => e = .returned (.bool true) ∧ Below w.heap.size w w' := by
  by_cases hlen : (1048576 : Int) < len0
  · go_enter Try.func6, Try.ntmps6
    go_wp2
    go_ret
    exact ⟨rfl, Below.refl _ _⟩
  · go_enter Try.func6, Try.ntmps6
    go_wp2_with fail
    refine (draw_root a0 len0 cap0 z0 _ w0).mono ?_
    rintro e wd ⟨n, rfl, hb⟩
    clear w0 hlen
    go_wp2_with fail
    refine (impl_root n _).mono ?_
    rintro e w' ⟨r, rfl, h1, rfl⟩
    go_wp2_with fail
    refine (spec_root n _).mono ?_
    rintro e w' ⟨s, rfl, h2, rfl⟩
    obtain rfl := h1.uniq h2
    clear h2
    by_cases hn : 0 ≤ n ∧ n ≤ 1000000000000
    · unfold IsRoot at h1
      rw [if_pos hn] at h1
      obtain ⟨p1, p2, p3⟩ := h1
      obtain ⟨n1, n2⟩ := hn
      have s3 := root_small p1 p2 n2
      have s4 := (sq_bd p1 s3).1
      have s5 := (sq_bd (r := r + 1) (B := 1000001) (by omega) (by omega)).2
      go_wp2_with fail
      go_ret
      exact ⟨ret_bool (by simp), hb⟩
    · unfold IsRoot at h1
      rw [if_neg hn] at h1
      subst h1
      have hn2 : n < 0 ∨ 1000000000000 < n := by omega
      clear hn
      rcases hn2 with hn2 | hn2
      all_goals
        go_wp2_with (go_at_call 15; refine (alive _).mono ?_; rintro e w' ⟨rfl, rfl⟩)
        go_ret
        exact ⟨ret_bool (by simp), hb⟩
theorem own : ownKnob Try.prog.godebug = none := by kernel_rfl
theorem laidOut : laidOutB Try.prog = true := by kernel_rfl
set_option maxRecDepth 100000 in
theorem lifted (os : Os) (started : os.Started) (H : Type) (enc : TypeId × Value → H) :
    ReturnsInHanded {} Try.checked os 6 .any (Rows.fnSquareRootSpec.pre6 enc Try.prog Try.f6 Rows.fnSquareRootRow.domain false) (Rows.fnSquareRootSpec.post enc Try.prog Try.f6 false true false false) := by
  refine returnsInHanded_of_change (C := Try.checked) own started (by kernel_rfl) Try.func6
    (ChangeSpec.witness6 (enc := enc) (C := Try.checked) false ⟨#[], #[.slice none 0 0], []⟩ 8 (by kernel_rfl) (by kernel_rfl) (by kernel_rfl) (by kernel_rfl)) ?_
  intro W base args ds gs before hval0 hW hcnd _
  have hval : ∀ (j : Nat) t v, Try.f6.params[j]? = some t → args[j]? = some v → Value.okWide Try.prog W .any base t v := hval0
  have hW' := hW
  obtain ⟨p, q, hA0, hV, rfl, hfz, hnd⟩ := hW
  have hA : DataW.TrodAll enc Try.prog W 0 (fun _ => true) true Try.f6.params.toList args.toList ds p := hA0
  rw [Try.params6] at hA hval
  obtain ⟨v0_, vs0, d0, ds0, p0, q0, hargs, rfl, rfl, h0, r0⟩ := trodAll_cons hA
  obtain ⟨rfl, rfl, rfl⟩ := trodAll_nil r0
  obtain rfl : args = #[v0_] := by cases args; simp_all
  obtain ⟨rfl, rfl⟩ := trodVars_none hV
  obtain ⟨a0, len0, cap0, rfl⟩ := okWide_slice Try.underlying31 (hval 0 31 v0_ rfl rfl)
  have k0 := h0
  have lt0 : ∀ x ∈ p0, x.block < W.heap.size := by obtain ⟨m, hm⟩ := k0; exact DataW.trod_lt m _ _ _ hm
  obtain ⟨z0, w0⟩ : ∃ zs, IsRow .u8 W a0 len0 cap0 zs := by
    obtain ⟨fuel, hf⟩ := h0
    rcases open_ints Try.underlying31 Try.underlying5 (by kernel_rfl) hf with ⟨hcs, _⟩ | ⟨x, l, c, zs, hcs, _, hl, hm, hz, _, hcell, hwz⟩
    · simp [Value.cells] at hcs
      obtain ⟨rfl, rfl, rfl⟩ := hcs
      exact ⟨[], .inl ⟨rfl, rfl, rfl, rfl⟩⟩
    · simp [Value.cells] at hcs
      obtain ⟨rfl, rfl, rfl⟩ := hcs
      exact ⟨zs, .inr ⟨_, rfl, hl, hm, by simpa using hz, hcell, hwz⟩⟩
  clear hA0 hval0
  refine (walk a0 len0 cap0 z0 W w0).mono fun e W' ⟨he, bel⟩ => ?_
  subst he
  exact ⟨_, rfl, _, _, _, [], _, [], hW', trodAll_mk1 (shut_bool Try.underlying4 _), (trodAll_cons_mk (Below.trod laidOut (by kernel_rfl) (of_decide_eq_true (by kernel_rfl)) k0 bel lt0) trodAll_mk0), rfl, bel.frame _, fun h => by cases h⟩
theorem over : Rows.fnSquareRootRow.holds Try.pinned (OpenSpec.ofChange Rows.fnSquareRootSpec) :=
  OpenClaim.holds_of_wide 6 Try.f6 rfl rfl rfl rfl rfl rfl rfl ⟨rfl, rfl, rfl, rfl, rfl⟩ rfl rfl rfl rfl rfl (by kernel_rfl) Try.func6 (by kernel_rfl)
    (of_decide_eq_true (by kernel_rfl)) (by unfold Func.isWrapper; first | (rw [if_pos (by decide +kernel)]; kernel_rfl) | (rw [if_neg (by decide +kernel)]; exact ⟨rfl, rfl⟩))
    (fun os started H enc _ => lifted os started H enc)
theorem proved : Rows.FnSquareRootSaid := over
#print axioms proved
end Go.Proofs.Ytmnpengjklghlaa.fnSquareRoot
