/- Proves that the law FnPointValid returns true for every input. Conditions: none. -/
import Derived.Test.YtidlmganlcgeaaaRows
import Derived.Test.YtidlmganlcgeaaaDrawPv
import Derived.ChangeOld
import Derived.ShutString
import Derived.Lib.SmallJoins
namespace Go.Proofs.Ytidlmganlcgeaaa.fnPointValid
open Go.ChangeShapes Go.WideShapes Go.ChangeAt Go.RowKit
set_option linter.unusedVariables false
theorem keep2 {W wn : World} {k : Nat} {x y : Int} (b : Below W.heap.size W wn) (h : W.cell? ⟨k, 0, none⟩ = some (.int .i64 x)) (h2 : W.cell? ⟨k, 1, none⟩ = some (.int .i64 y)) :
    wn.cell? ⟨k, 0, none⟩ = some (.int .i64 x) ∧ wn.cell? ⟨k, 1, none⟩ = some (.int .i64 y) := by
  have l1 := World.block_lt_of_cell? _ _ h
  exact ⟨by rw [b.cell (p := ⟨k, 0, none⟩) l1]; exact h, by rw [b.cell (p := ⟨k, 1, none⟩) l1]; exact h2⟩
theorem swap (x y : Int) : M.pvB y x = M.pvB x y := by unfold M.pvB; rw [decide_eq_decide]; omega
theorem neg (x y : Int) : M.pvB (-x) (-y) = M.pvB x y := by unfold M.pvB; rw [decide_eq_decide]; omega
theorem far (x : Int) : M.pvB x 10001 = false := by simp [M.pvB]
theorem zero : M.pvB 0 0 = true := by simp [M.pvB]
set_option maxHeartbeats 1000000 in
theorem walk (a0 : Option Addr) (len0 cap0 : Nat) (z0 : List Int) (w : World) (w0 : IsRow .u8 w a0 len0 cap0 z0) :
    Calls Try.prog 5 #[.slice a0 len0 cap0] w fun e w' => e = .returned (.bool true) ∧ Below w.heap.size w w' := by
  by_cases hlen : (1048576 : Int) < len0
  · go_enter Try.func5, Try.ntmps5
    go_wp2
    go_ret
    exact ⟨rfl, Below.refl _ _⟩
  · go_enter Try.func5, Try.ntmps5
    go_wp2_with fail
    refine (draw_pv a0 len0 cap0 z0 _ w0).mono ?_
    rintro e w1 ⟨⟨x, y, rfl, ⟨x1, x2⟩, ⟨y1, y2⟩⟩, b1⟩
    obtain ⟨c1, c2, c3⟩ := Box.new w1 x y 25
    have hq := Lib.hid b1
    have e1 := swap x y
    have e2 := neg x y
    have e3 := far x
    have e4 := zero
    clear b1 w0
    go_wp2_with (first | (go_at_call 11; refine (spec_pv _ _ _).mono ?_; rintro e wn ⟨rfl, b⟩; have hb := Lib.hid b; obtain ⟨s1, s2⟩ := keep2 b (by assumption) (by assumption); clear b) | (go_at_call 13; refine (impl_pv _ _ _).mono ?_; rintro e wn ⟨rfl, b⟩; have hb := Lib.hid b; obtain ⟨s1, s2⟩ := keep2 b (by assumption) (by assumption); clear b))
    go_ret
    exact ⟨rfl, by repeat (first | exact hq.out | refine Below.drew ?_ | refine bel_set ?_ (by omega) _ | refine bel_alloc ?_ _ | refine bel_trans ?_ (by assumption))⟩
theorem own : ownKnob Try.prog.godebug = none := by kernel_rfl
theorem laidOut : laidOutB Try.prog = true := by kernel_rfl
set_option maxRecDepth 100000 in
theorem lifted (os : Os) (started : os.Started) (H : Type) (enc : TypeId × Value → H) :
    ReturnsInHanded {} Try.checked os 5 .any (Rows.fnPointValidSpec.pre6 enc Try.prog Try.f5 Rows.fnPointValidRow.domain false) (Rows.fnPointValidSpec.post enc Try.prog Try.f5 false true false false) := by
  refine returnsInHanded_of_change (C := Try.checked) own started (by kernel_rfl) Try.func5
    (ChangeSpec.witness6 (enc := enc) (C := Try.checked) false ⟨#[], #[.slice none 0 0], []⟩ 8 (by kernel_rfl) (by kernel_rfl) (by kernel_rfl) (by kernel_rfl)) ?_
  intro W base args ds gs before hval0 hW hcnd _
  have hval : ∀ (j : Nat) t v, Try.f5.params[j]? = some t → args[j]? = some v → Value.okWide Try.prog W .any base t v := hval0
  have hW' := hW
  obtain ⟨p, q, hA0, hV, rfl, hfz, hnd⟩ := hW
  have hA : DataW.TrodAll enc Try.prog W 0 (fun _ => true) true Try.f5.params.toList args.toList ds p := hA0
  rw [Try.params5] at hA hval
  obtain ⟨v0_, vs0, d0, ds0, p0, q0, hargs, rfl, rfl, h0, r0⟩ := trodAll_cons hA
  obtain ⟨rfl, rfl, rfl⟩ := trodAll_nil r0
  obtain rfl : args = #[v0_] := by cases args; simp_all
  obtain ⟨rfl, rfl⟩ := trodVars_none hV
  obtain ⟨a0, len0, cap0, rfl⟩ := okWide_slice Try.underlying30 (hval 0 30 v0_ rfl rfl)
  have k0 := h0
  have lt0 : ∀ x ∈ p0, x.block < W.heap.size := by obtain ⟨m, hm⟩ := k0; exact DataW.trod_lt m _ _ _ hm
  obtain ⟨z0, w0⟩ : ∃ zs, IsRow .u8 W a0 len0 cap0 zs := by
    obtain ⟨fuel, hf⟩ := h0
    rcases open_ints Try.underlying30 Try.underlying5 (by kernel_rfl) hf with ⟨hcs, _⟩ | ⟨x, l, c, zs, hcs, _, hl, hm, hz, _, hcell, hwz⟩
    · simp [Value.cells] at hcs
      obtain ⟨rfl, rfl, rfl⟩ := hcs
      exact ⟨[], .inl ⟨rfl, rfl, rfl, rfl⟩⟩
    · simp [Value.cells] at hcs
      obtain ⟨rfl, rfl, rfl⟩ := hcs
      exact ⟨zs, .inr ⟨_, rfl, hl, hm, by simpa using hz, hcell, hwz⟩⟩
  clear hA0 hval0
  refine (walk a0 len0 cap0 z0 W w0).mono fun e W' ⟨he, bel⟩ => ?_
  subst he
  exact ⟨_, rfl, _, _, _, [], _, [], hW', trodAll_mk1 (shut_bool Try.underlying4 _), (trodAll_cons_mk (Below.trod laidOut (by kernel_rfl) (of_decide_eq_true (by kernel_rfl)) k0 bel lt0) trodAll_mk0), rfl, bel.frame _, fun h => by cases h⟩
theorem over : Rows.fnPointValidRow.holds Try.pinned (OpenSpec.ofChange Rows.fnPointValidSpec) :=
  OpenClaim.holds_of_wide 5 Try.f5 rfl rfl rfl rfl rfl rfl rfl ⟨rfl, rfl, rfl, rfl, rfl⟩ rfl rfl rfl rfl rfl (by kernel_rfl) Try.func5 (by kernel_rfl)
    (of_decide_eq_true (by kernel_rfl)) (by unfold Func.isWrapper; first | (rw [if_pos (by decide +kernel)]; kernel_rfl) | (rw [if_neg (by decide +kernel)]; exact ⟨rfl, rfl⟩))
    (fun os started H enc _ => lifted os started H enc)
theorem proved : Rows.FnPointValidSaid := over
#print axioms proved
end Go.Proofs.Ytidlmganlcgeaaa.fnPointValid
