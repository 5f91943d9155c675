/- Proves that the law FnOrientation returns true for every input. Conditions: none. -/
import Derived.Test.YtidlmganlcgeaaaRows
import Derived.Test.YtidlmganlcgeaaaOri
import Derived.Test.YtidlmganlcgeaaaDrawOri
import Derived.Test.YtidlmganlcgeaaaAlive
import Derived.ChangeOld
import Derived.ShutString
import Derived.Lib.SmallJoins
namespace Go.Proofs.Ytidlmganlcgeaaa.fnOrientation
open Go.ChangeShapes Go.WideShapes Go.ChangeAt Go.RowKit
set_option linter.unusedVariables false
theorem cr_cyc (a b c d x y : Int) : M.cr c d x y a b = M.cr a b c d x y := by
  unfold M.cr; grind
theorem cr_swap (a b c d x y : Int) : M.cr c d a b x y = - M.cr a b c d x y := by
  unfold M.cr; grind
theorem cr_self (a b x y : Int) : M.cr a b a b x y = 0 := by
  unfold M.cr; grind
theorem sgn_neg (n : Int) : M.sgn (-n) = - M.sgn n := by
  unfold M.sgn; repeat' split
  all_goals omega
theorem ori_cyc (a b c d x y : Int) : M.ori c d x y a b = M.ori a b c d x y := by
  by_cases h : M.pvB a b = true ∧ M.pvB c d = true ∧ M.pvB x y = true
  · rw [M.ori_yes h.1 h.2.1 h.2.2, M.ori_yes h.2.1 h.2.2 h.1, cr_cyc]
  · rw [M.ori_no h, M.ori_no (fun h' => h ⟨h'.2.2, h'.1, h'.2.1⟩)]
theorem ori_swap (a b c d x y : Int) : M.ori c d a b x y = - M.ori a b c d x y := by
  by_cases h : M.pvB a b = true ∧ M.pvB c d = true ∧ M.pvB x y = true
  · rw [M.ori_yes h.1 h.2.1 h.2.2, M.ori_yes h.2.1 h.1 h.2.2, cr_swap, sgn_neg]
  · rw [M.ori_no h, M.ori_no (fun h' => h ⟨h'.2.1, h'.1, h'.2.2⟩)]; rfl
theorem ori_self (a b x y : Int) : M.ori a b a b x y = 0 := by
  by_cases h : M.pvB a b = true ∧ M.pvB a b = true ∧ M.pvB x y = true
  · rw [M.ori_yes h.1 h.2.1 h.2.2, cr_self]; rfl
  · exact M.ori_no h
theorem ori_bd (a b c d x y : Int) : -1 ≤ M.ori a b c d x y ∧ M.ori a b c d x y ≤ 1 := by
  unfold M.ori M.sgn; repeat' split
  all_goals omega
set_option maxHeartbeats 2000000 in
theorem walk (a0 : Option Addr) (len0 cap0 : Nat) (z0 : List Int) (w : World) (w0 : IsRow .u8 w a0 len0 cap0 z0) :
    Calls Try.prog 10 #[.slice a0 len0 cap0] w fun e w' => e = .returned (.bool true) ∧ Below w.heap.size w w' := by
  by_cases hlen : (1048576 : Int) < len0
  · go_enter Try.func10, Try.ntmps10
    go_wp2
    go_ret
    exact ⟨rfl, Below.refl _ _⟩
  · go_enter Try.func10, Try.ntmps10
    go_wp2_with fail
    refine (draw_ori a0 len0 cap0 z0 _ w0).mono ?_
    rintro e w1 ⟨⟨a, b, c, d, x, y, rfl⟩, b1⟩
    have B0 := ((Box.new w1 a b 25).alloc (.cells #[.int .i64 c, .int .i64 d] 25)).alloc (.cells #[.int .i64 x, .int .i64 y] 25)
    have B1 := (Box.new (w1.alloc (.cells #[.int .i64 a, .int .i64 b] 25)) c d 25).alloc (.cells #[.int .i64 x, .int .i64 y] 25)
    rw [World.size_alloc] at B1
    have B2 := Box.new ((w1.alloc (.cells #[.int .i64 a, .int .i64 b] 25)).alloc (.cells #[.int .i64 c, .int .i64 d] 25)) x y 25
    rw [World.size_alloc, World.size_alloc] at B2
    have s := And.intro (And.intro B0.1 B0.2.1) (And.intro (And.intro B1.1 B1.2.1) (And.intro B2.1 B2.2.1))
    have hq := Lib.hid (bel_alloc (bel_alloc (bel_alloc b1 (.cells #[.int .i64 a, .int .i64 b] 25)) (.cells #[.int .i64 c, .int .i64 d] 25)) (.cells #[.int .i64 x, .int .i64 y] 25))
    have e1 := ori_cyc a b c d x y
    have e2 := ori_swap a b c d x y
    have e3 := ori_self a b x y
    obtain ⟨e4, e5⟩ := ori_bd a b c d x y
    clear b1 w0 B0 B1 B2
    go_wp2_with (first | (go_at_call 21; refine (impl_ori _ _ _ _ _ _ _).mono ?_; rintro e wn ⟨rfl, g⟩; have hb := Lib.hid g; have s := keep6 g (by with_reducible assumption); clear g) | (go_at_call 20; refine (spec_ori _ _ _ _ _ _ _).mono ?_; rintro e wn ⟨rfl, g⟩; have hb := Lib.hid g; have s := keep6 g (by with_reducible assumption); clear g) | (go_at_call 23; refine (alive _).mono ?_; rintro e w' ⟨rfl, rfl⟩))
    go_ret
    exact ⟨ret_bool (by simp), by repeat (first | (with_reducible exact hq.out) | (with_reducible refine Below.drew ?_) | (with_reducible refine bel_alloc ?_ _) | (refine bel_trans ?_ (by with_reducible assumption)))⟩
theorem own : ownKnob Try.prog.godebug = none := by kernel_rfl
theorem laidOut : laidOutB Try.prog = true := by kernel_rfl
set_option maxRecDepth 100000 in
theorem lifted (os : Os) (started : os.Started) (H : Type) (enc : TypeId × Value → H) :
    ReturnsInHanded {} Try.checked os 10 .any (Rows.fnOrientationSpec.pre6 enc Try.prog Try.f10 Rows.fnOrientationRow.domain false) (Rows.fnOrientationSpec.post enc Try.prog Try.f10 false true false false) := by
  refine returnsInHanded_of_change (C := Try.checked) own started (by kernel_rfl) Try.func10
    (ChangeSpec.witness6 (enc := enc) (C := Try.checked) false ⟨#[], #[.slice none 0 0], []⟩ 8 (by kernel_rfl) (by kernel_rfl) (by kernel_rfl) (by kernel_rfl)) ?_
  intro W base args ds gs before hval0 hW hcnd _
  have hval : ∀ (j : Nat) t v, Try.f10.params[j]? = some t → args[j]? = some v → Value.okWide Try.prog W .any base t v := hval0
  have hW' := hW
  obtain ⟨p, q, hA0, hV, rfl, hfz, hnd⟩ := hW
  have hA : DataW.TrodAll enc Try.prog W 0 (fun _ => true) true Try.f10.params.toList args.toList ds p := hA0
  rw [Try.params10] at hA hval
  obtain ⟨v0_, vs0, d0, ds0, p0, q0, hargs, rfl, rfl, h0, r0⟩ := trodAll_cons hA
  obtain ⟨rfl, rfl, rfl⟩ := trodAll_nil r0
  obtain rfl : args = #[v0_] := by cases args; simp_all
  obtain ⟨rfl, rfl⟩ := trodVars_none hV
  obtain ⟨a0, len0, cap0, rfl⟩ := okWide_slice Try.underlying30 (hval 0 30 v0_ rfl rfl)
  have k0 := h0
  have lt0 : ∀ x ∈ p0, x.block < W.heap.size := by obtain ⟨m, hm⟩ := k0; exact DataW.trod_lt m _ _ _ hm
  obtain ⟨z0, w0⟩ : ∃ zs, IsRow .u8 W a0 len0 cap0 zs := by
    obtain ⟨fuel, hf⟩ := h0
    rcases open_ints Try.underlying30 Try.underlying5 (by kernel_rfl) hf with ⟨hcs, _⟩ | ⟨x, l, c, zs, hcs, _, hl, hm, hz, _, hcell, hwz⟩
    · simp [Value.cells] at hcs
      obtain ⟨rfl, rfl, rfl⟩ := hcs
      exact ⟨[], .inl ⟨rfl, rfl, rfl, rfl⟩⟩
    · simp [Value.cells] at hcs
      obtain ⟨rfl, rfl, rfl⟩ := hcs
      exact ⟨zs, .inr ⟨_, rfl, hl, hm, by simpa using hz, hcell, hwz⟩⟩
  clear hA0 hval0
  refine (walk a0 len0 cap0 z0 W w0).mono fun e W' ⟨he, bel⟩ => ?_
  subst he
  exact ⟨_, rfl, _, _, _, [], _, [], hW', trodAll_mk1 (shut_bool Try.underlying4 _), (trodAll_cons_mk (Below.trod laidOut (by kernel_rfl) (of_decide_eq_true (by kernel_rfl)) k0 bel lt0) trodAll_mk0), rfl, bel.frame _, fun h => by cases h⟩
theorem over : Rows.fnOrientationRow.holds Try.pinned (OpenSpec.ofChange Rows.fnOrientationSpec) :=
  OpenClaim.holds_of_wide 10 Try.f10 rfl rfl rfl rfl rfl rfl rfl ⟨rfl, rfl, rfl, rfl, rfl⟩ rfl rfl rfl rfl rfl (by kernel_rfl) Try.func10 (by kernel_rfl)
    (of_decide_eq_true (by kernel_rfl)) (by unfold Func.isWrapper; first | (rw [if_pos (by decide +kernel)]; kernel_rfl) | (rw [if_neg (by decide +kernel)]; exact ⟨rfl, rfl⟩))
    (fun os started H enc _ => lifted os started H enc)
theorem proved : Rows.FnOrientationSaid := over
#print axioms proved
end Go.Proofs.Ytidlmganlcgeaaa.fnOrientation
