/- Contracts of a point's rotation. -/
import Derived.Test.YtmainffjekjlnaaDoorPoint
import Derived.Test.YtmainffjekjlnaaDoorTrig
namespace Go.Proofs.YtmainffjekjlnaaDoor
open Go.ChangeShapes Go.WideShapes Go.ChangeAt Go.RowKit
set_option linter.unusedVariables false
/-- a number in units, rounded -/
def M.rd (n : Int) : Int := (n + 2048) / 4096
def M.tx (x y d : Int) : Int := M.rd (x * M.cosine d - y * M.sine d)
def M.ty (x y d : Int) : Int := M.rd (x * M.sine d + y * M.cosine d)
def M.rx (x y d : Int) : Int := if M.pvB x y = true then M.tx x y d else 0
def M.ry (x y d : Int) : Int := if M.pvB x y = true then M.ty x y d else 0
theorem M.rot_no {x y : Int} (d : Int) (h : M.pvB x y = false) : M.rx x y d = 0 ∧ M.ry x y d = 0 := by unfold M.rx M.ry; rw [h]; exact ⟨rfl, rfl⟩
theorem M.rot_yes {x y : Int} (d : Int) (h : M.pvB x y = true) : M.rx x y d = M.tx x y d ∧ M.ry x y d = M.ty x y d := by unfold M.rx M.ry; rw [h]; exact ⟨rfl, rfl⟩
/-- the products of a rotation stay small -/
theorem turn_bd {x y : Int} (d : Int) (h1 : -1000000 ≤ x) (h2 : x ≤ 1000000) (h3 : -1000000 ≤ y) (h4 : y ≤ 1000000) :
    ((-4096000000 ≤ x * M.cosine d ∧ x * M.cosine d ≤ 4096000000) ∧ (-4096000000 ≤ y * M.sine d ∧ y * M.sine d ≤ 4096000000)) ∧ ((-4096000000 ≤ x * M.sine d ∧ x * M.sine d ≤ 4096000000) ∧ (-4096000000 ≤ y * M.cosine d ∧ y * M.cosine d ≤ 4096000000)) := by
  obtain ⟨⟨⟨s1, s2⟩, ⟨s3, s4⟩⟩, _⟩ := trig d
  exact ⟨⟨M.mul_bd h1 h2 s3 s4 (by omega), M.mul_bd h3 h4 s1 s2 (by omega)⟩, ⟨M.mul_bd h1 h2 s1 s2 (by omega), M.mul_bd h3 h4 s3 s4 (by omega)⟩⟩
theorem l1_round (n : Int) (w : World) (h1 : -10000000000 ≤ n) (h2 : n ≤ 10000000000) :
    Calls Tryd.prog 67 #[.int .i64 n, .int .i64 4096] w fun e w' => e = .returned (.int .i64 (M.rd n)) ∧ w = w' := by
  have e0 : (4096 : Int).tdiv 2 = 2048 := by decide
  go_enter Tryd.func67, Tryd.ntmps67
  go_wp2_with fail
  refine (l1_floor (n + 2048) 4096 _ (by omega) (by omega) (by omega) (by omega)).mono ?_
  rintro e w' ⟨rfl, rfl⟩
  go_wp2_with fail
  go_ret
  exact ⟨rfl, rfl⟩
theorem nearest_4096 (n : Int) (w : World) (h1 : -10000000000 ≤ n) (h2 : n ≤ 10000000000) :
    Calls Tryd.prog 78 #[.int .i64 n, .int .i64 4096] w fun e w' => e = .returned (.int .i64 (M.rd n)) ∧ w = w' := by
  have hf : (2 * n + 4096) / 8192 = M.rd n := by unfold M.rd; omega
  go_enter Tryd.func78, Tryd.ntmps78
  go_wp2_with fail
  refine (impl_floor (2 * n + 4096) 8192 _ (by omega) (by omega) (by omega) (by omega)).mono ?_
  rintro e w' ⟨rfl, rfl⟩
  go_wp2_with fail
  go_ret
  exact ⟨rfl, rfl⟩
theorem ret_agg {a b a' b' : Int} (h : a' = a ∧ b' = b) : Ending.returned (.agg #[.int .i64 a, .int .i64 b]) = .returned (.agg #[.int .i64 a', .int .i64 b']) := by rw [h.1, h.2]
theorem l2_turn (x y d : Int) (w : World) (h1 : -1000000 ≤ x) (h2 : x ≤ 1000000) (h3 : -1000000 ≤ y) (h4 : y ≤ 1000000) :
    Calls Tryd.prog 43 #[.agg #[.int .i64 x, .int .i64 y], .int .i64 d] w fun e w' => e = .returned (.agg #[.int .i64 (M.tx x y d), .int .i64 (M.ty x y d)]) ∧ Below w.heap.size w w' := by
  go_enter Tryd.func43, Tryd.ntmps43
  go_wp2_with fail
  refine (spec_sine d _).mono ?_
  rintro e w1 ⟨rfl, b1⟩
  have B1 := ((Box.new w x y 27).alloc (.cells #[.int .i64 0, .int .i64 0] 27)).below b1 (by simp; omega)
  have B3 := (Slot.new (w.alloc (.cells #[.int .i64 x, .int .i64 y] 27)) 0 0 27).below b1 (by simp)
  rw [World.size_alloc] at B3
  have q1 := Lib.hid ((((Below.refl w.heap.size w).alloc (Nat.le_refl _) (.cells #[.int .i64 x, .int .i64 y] 27)).alloc (by simp) (.cells #[.int .i64 0, .int .i64 0] 27)).trans (b1.mono (by simp; omega)))
  clear b1
  obtain ⟨c1, c2, c3⟩ := B1
  obtain ⟨c7, c8, f1, f2, c9⟩ := B3
  go_wp2_with fail
  refine (spec_cosine d _).mono ?_
  rintro e w2 ⟨rfl, b1⟩
  have B1 := Box.below ⟨c1, c2, c3⟩ b1 c3
  have B3 := Slot.below ⟨c7, c8, f1, f2, c9⟩ b1 c9
  replace q1 := Lib.hid (q1.out.trans (b1.mono q1.out.size))
  clear b1 c1 c2 c7 c8 f1 f2
  obtain ⟨c1, c2, c3⟩ := B1
  obtain ⟨c7, c8, f1, f2, c9⟩ := B3
  go_wp2_with fail
  obtain ⟨⟨⟨g1, g2⟩, ⟨g3, g4⟩⟩, ⟨⟨g5, g6⟩, ⟨g7, g8⟩⟩⟩ := turn_bd (x := x) (y := y) d (by omega) (by omega) (by omega) (by omega)
  have hfin := Lib.hid (show M.tx x y d = M.rd (x * M.cosine d - y * M.sine d) ∧ M.ty x y d = M.rd (x * M.sine d + y * M.cosine d) from ⟨rfl, rfl⟩)
  generalize M.cosine d = c at *
  generalize M.sine d = s at *
  have e1 : IntKind.i64.wrap (x * c) = x * c := IntWalk.i64_in _ (by omega)
  have e2 : IntKind.i64.wrap (y * s) = y * s := IntWalk.i64_in _ (by omega)
  have e3 : IntKind.i64.wrap (x * s) = x * s := IntWalk.i64_in _ (by omega)
  have e4 : IntKind.i64.wrap (y * c) = y * c := IntWalk.i64_in _ (by omega)
  have e5 : IntKind.i64.wrap (x * c - y * s) = x * c - y * s := IntWalk.i64_in _ (by omega)
  have e6 : IntKind.i64.wrap (x * s + y * c) = x * s + y * c := IntWalk.i64_in _ (by omega)
  refine wp_region_still_tail 21 (by kernel_rfl) (by kernel_rfl) ?_
  simp only [List.take_succ_cons, List.take_zero, List.drop_succ_cons, List.drop_zero]
  change wpStill _ _ (World.drew _) (fun a' => wpList _ _ _ _ a' (World.drew _)) _ _
  repeat still_step
  still_call (still_of (l1_round (x * c - y * s) _ (by omega) (by omega)))
  repeat still_step
  still_call (still_of (l1_round (x * s + y * c) _ (by omega) (by omega)))
  repeat still_step
  refine wpStill_nil ?_
  go_wp2_with fail
  refine bodyPost_ret (v := .agg #[.int .i64 (M.rd (x * c - y * s)), .int .i64 (M.rd (x * s + y * c))]) (by simp [results, Tryd.results43, go_sem, c7, c8]) rfl ⟨ret_agg hfin.out, ?_⟩
  exact ((q1.out.setCell (by simp <;> omega) _).setCell (by simp <;> omega) _).drew
theorem impl_rot (x y d : Int) (w : World) (hT : Tables w) :
    Calls Tryd.prog 71 #[.agg #[.int .i64 x, .int .i64 y], .int .i64 d] w fun e w' => e = .returned (.agg #[.int .i64 (M.rx x y d), .int .i64 (M.ry x y d)]) ∧ Below w.heap.size w w' := by
  replace hT := Lib.hid hT
  go_enter Tryd.func71, Tryd.ntmps71
  go_wp2_with fail
  refine (impl_pv _ _ _).mono ?_
  rintro e w1 ⟨rfl, b1⟩
  have B1 := ((Box.new w x y 27).alloc (.cells #[.int .i64 0, .int .i64 0] 27)).below b1 (by simp; omega)
  have B3 := (Slot.new (w.alloc (.cells #[.int .i64 x, .int .i64 y] 27)) 0 0 27).below b1 (by simp)
  rw [World.size_alloc] at B3
  have q1 := Lib.hid ((((Below.refl w.heap.size w).alloc (Nat.le_refl _) (.cells #[.int .i64 x, .int .i64 y] 27)).alloc (by simp) (.cells #[.int .i64 0, .int .i64 0] 27)).trans (b1.mono (by simp; omega)))
  replace hT := Lib.hid (hT.out.later q1.out)
  clear b1
  obtain ⟨c1, c2, c3⟩ := B1
  obtain ⟨c7, c8, f1, f2, c9⟩ := B3
  cases hv : M.pvB x y
  · have hfin := Lib.hid (M.rot_no d hv)
    go_wp2_with fail
    refine bodyPost_ret (v := .agg #[.int .i64 0, .int .i64 0]) (by simp [results, Tryd.results71, go_sem, c7, c8]) rfl ⟨ret_agg hfin.out, ?_⟩
    exact (q1.out.setCell (by simp <;> omega) _).setCell (by simp <;> omega) _
  have hfin := Lib.hid (M.rot_yes d hv)
  obtain ⟨h1, h2, h3, h4⟩ := M.pvB_true.1 hv
  go_wp2_with fail
  refine (impl_sine _ _ hT.out).mono ?_
  rintro e w' ⟨rfl, rfl⟩
  go_wp2_with fail
  refine (impl_cosine _ _ hT.out).mono ?_
  rintro e w' ⟨rfl, rfl⟩
  go_wp2_with fail
  obtain ⟨⟨⟨g1, g2⟩, ⟨g3, g4⟩⟩, ⟨⟨g5, g6⟩, ⟨g7, g8⟩⟩⟩ := turn_bd (x := x) (y := y) d (by omega) (by omega) (by omega) (by omega)
  replace hfin := Lib.hid (show M.rx x y d = M.rd (x * M.cosine d - y * M.sine d) ∧ M.ry x y d = M.rd (x * M.sine d + y * M.cosine d) from hfin.out)
  generalize M.cosine d = c at *
  generalize M.sine d = s at *
  have e1 : IntKind.i64.wrap (x * c) = x * c := IntWalk.i64_in _ (by omega)
  have e2 : IntKind.i64.wrap (y * s) = y * s := IntWalk.i64_in _ (by omega)
  have e3 : IntKind.i64.wrap (x * s) = x * s := IntWalk.i64_in _ (by omega)
  have e4 : IntKind.i64.wrap (y * c) = y * c := IntWalk.i64_in _ (by omega)
  have e5 : IntKind.i64.wrap (x * c - y * s) = x * c - y * s := IntWalk.i64_in _ (by omega)
  have e6 : IntKind.i64.wrap (x * s + y * c) = x * s + y * c := IntWalk.i64_in _ (by omega)
  refine wp_region_still_tail 21 (by kernel_rfl) (by kernel_rfl) ?_
  simp only [List.take_succ_cons, List.take_zero, List.drop_succ_cons, List.drop_zero]
  change wpStill _ _ (World.drew _) (fun a' => wpList _ _ _ _ a' (World.drew _)) _ _
  repeat still_step
  still_call (still_of (nearest_4096 (x * c - y * s) _ (by omega) (by omega)))
  repeat still_step
  still_call (still_of (nearest_4096 (x * s + y * c) _ (by omega) (by omega)))
  repeat still_step
  refine wpStill_nil ?_
  go_wp2_with fail
  refine bodyPost_ret (v := .agg #[.int .i64 (M.rd (x * c - y * s)), .int .i64 (M.rd (x * s + y * c))]) (by simp [results, Tryd.results71, go_sem, c7, c8]) rfl ⟨ret_agg hfin.out, ?_⟩
  exact ((q1.out.setCell (by simp <;> omega) _).setCell (by simp <;> omega) _).drew
end Go.Proofs.YtmainffjekjlnaaDoor
