/- Contracts of the middle of two points. -/
import Derived.Test.YtidlmganlcgeaaaPoint
namespace Go.Proofs.Ytidlmganlcgeaaa
open Go.ChangeShapes Go.WideShapes Go.ChangeAt Go.RowKit
set_option linter.unusedVariables false
def M.midx (a b c d : Int) : Int := if M.pvB a b = true ∧ M.pvB c d = true then (a + c) / 2 else 0
def M.midy (a b c d : Int) : Int := if M.pvB a b = true ∧ M.pvB c d = true then (b + d) / 2 else 0
/-- the middle as a value -/
def M.mid (a b c d : Int) : Value := .agg #[.int .i64 (M.midx a b c d), .int .i64 (M.midy a b c d)]
theorem M.mid_no {a b c d : Int} (h : ¬ (M.pvB a b = true ∧ M.pvB c d = true)) : M.mid a b c d = .agg #[.int .i64 0, .int .i64 0] := by unfold M.mid M.midx M.midy; rw [if_neg h, if_neg h]
theorem M.mid_yes {a b c d : Int} (h : M.pvB a b = true) (h2 : M.pvB c d = true) : M.mid a b c d = .agg #[.int .i64 ((a + c) / 2), .int .i64 ((b + d) / 2)] := by unfold M.mid M.midx M.midy; rw [if_pos ⟨h, h2⟩, if_pos ⟨h, h2⟩]
theorem ret_val {a b : Value} (h : a = b) : Ending.returned a = .returned b := by rw [h]
theorem spec_mid (a b c d : Int) (w : World) :
    Calls Try.prog 17 #[.agg #[.int .i64 a, .int .i64 b], .agg #[.int .i64 c, .int .i64 d]] w fun e w' => e = .returned (M.mid a b c d) ∧ Below w.heap.size w w' := by
  go_enter Try.func17, Try.ntmps17
  go_wp2_with fail
  refine (spec_pv _ _ _).mono ?_
  rintro e w1 ⟨rfl, b1⟩
  have B1 := (((Box.new w a b 25).alloc (.cells #[.int .i64 c, .int .i64 d] 25)).alloc (.cells #[.int .i64 0, .int .i64 0] 25)).below b1 (by simp; omega)
  have B2 := ((Box.new (w.alloc (.cells #[.int .i64 a, .int .i64 b] 25)) c d 25).alloc (.cells #[.int .i64 0, .int .i64 0] 25)).below b1 (by simp)
  rw [World.size_alloc] at B2
  have B3 := (Slot.new ((w.alloc (.cells #[.int .i64 a, .int .i64 b] 25)).alloc (.cells #[.int .i64 c, .int .i64 d] 25)) 0 0 25).below b1 (by simp)
  rw [World.size_alloc, World.size_alloc] at B3
  have q1 := Lib.hid (((((Below.refl w.heap.size w).alloc (Nat.le_refl _) _).alloc (by simp) _).alloc (by simp; omega) _).trans (b1.mono (by simp; omega)))
  clear b1
  cases h1 : M.pvB a b
  · have hfin := Lib.hid (M.mid_no (a := a) (b := b) (c := c) (d := d) (by simp [h1]))
    obtain ⟨c7, c8, f1, f2, c9⟩ := B3
    go_wp2_with fail
    refine bodyPost_ret (v := .agg #[.int .i64 0, .int .i64 0]) (by simp [results, Try.results17, go_sem, c7, c8]) rfl ⟨ret_val hfin.out.symm, ?_⟩
    exact (q1.out.setCell (by simp; omega) _).setCell (by simp; omega) _
  · obtain ⟨c1, c2, c3⟩ := B1
    obtain ⟨c4, c5, c6⟩ := B2
    go_wp2_with fail
    refine (spec_pv _ _ _).mono ?_
    rintro e w2 ⟨rfl, b2⟩
    have B1 := Box.below ⟨c1, c2, c3⟩ b2 c3
    have B2 := Box.below ⟨c4, c5, c6⟩ b2 c6
    have B3 := B3.below b2 B3.2.2.2.2
    have q2 := Lib.hid (q1.out.trans (b2.mono q1.out.size))
    clear b2 c1 c2 c4 c5
    obtain ⟨c7, c8, f1, f2, c9⟩ := B3
    cases h2 : M.pvB c d
    · have hfin := Lib.hid (M.mid_no (a := a) (b := b) (c := c) (d := d) (by simp [h2]))
      go_wp2_with fail
      refine bodyPost_ret (v := .agg #[.int .i64 0, .int .i64 0]) (by simp [results, Try.results17, go_sem, c7, c8]) rfl ⟨ret_val hfin.out.symm, ?_⟩
      exact (q2.out.setCell (by simp; omega) _).setCell (by simp; omega) _
    · have hfin := Lib.hid (M.mid_yes h1 h2)
      obtain ⟨c1, c2, c3⟩ := B1
      obtain ⟨c4, c5, c6⟩ := B2
      obtain ⟨g1, g2, g3, g4⟩ := M.pvB_true.1 h1
      obtain ⟨g5, g6, g7, g8⟩ := M.pvB_true.1 h2
      go_wp2_with fail
      have e1 : IntKind.i64.wrap (a + c) = a + c := IntWalk.i64_in _ (by omega)
      have e2 : IntKind.i64.wrap (b + d) = b + d := IntWalk.i64_in _ (by omega)
      refine wp_region_still_tail 13 (by kernel_rfl) (by kernel_rfl) ?_
      simp only [List.take_succ_cons, List.take_zero, List.drop_succ_cons, List.drop_zero]
      change wpStill _ _ (World.drew _) (fun a' => wpList _ _ _ _ a' (World.drew _)) _ _
      repeat still_step
      still_call (still_of (l1_floor (a + c) 2 _ (by omega) (by omega) (by omega) (by omega)))
      repeat still_step
      still_call (still_of (l1_floor (b + d) 2 _ (by omega) (by omega) (by omega) (by omega)))
      repeat still_step
      refine wpStill_nil ?_
      go_wp2_with fail
      refine bodyPost_ret (v := .agg #[.int .i64 ((a + c) / 2), .int .i64 ((b + d) / 2)]) (by simp [results, Try.results17, go_sem, c7, c8]) rfl ⟨ret_val hfin.out.symm, ?_⟩
      exact ((q2.out.setCell (by simp; omega) _).setCell (by simp; omega) _).drew
theorem impl_mid (a b c d : Int) (w : World) :
    Calls Try.prog 18 #[.agg #[.int .i64 a, .int .i64 b], .agg #[.int .i64 c, .int .i64 d]] w fun e w' => e = .returned (M.mid a b c d) ∧ Below w.heap.size w w' := by
  go_enter Try.func18, Try.ntmps18
  go_wp2_with fail
  refine (all_points _ 2 _ (pxs a c) (pxs b d) _ (by omega) (by simp) (by have := at2 (w := ((w.alloc (.cells #[.int .i64 a, .int .i64 b] 25)).alloc (.cells #[.int .i64 c, .int .i64 d] 25)).alloc (.cells #[.int .i64 0, .int .i64 0] 25)) a b c d 25; simpa using this)).mono ?_
  rintro e w1 ⟨rfl, b1⟩
  have B1 := ((((Box.new w a b 25).alloc (.cells #[.int .i64 c, .int .i64 d] 25)).alloc (.cells #[.int .i64 0, .int .i64 0] 25)).alloc (.cells #[.int .i64 a, .int .i64 b, .int .i64 c, .int .i64 d] 25)).below b1 (by simp; omega)
  have B2 := (((Box.new (w.alloc (.cells #[.int .i64 a, .int .i64 b] 25)) c d 25).alloc (.cells #[.int .i64 0, .int .i64 0] 25)).alloc (.cells #[.int .i64 a, .int .i64 b, .int .i64 c, .int .i64 d] 25)).below b1 (by simp)
  rw [World.size_alloc] at B2
  have B3 := ((Slot.new ((w.alloc (.cells #[.int .i64 a, .int .i64 b] 25)).alloc (.cells #[.int .i64 c, .int .i64 d] 25)) 0 0 25).alloc (.cells #[.int .i64 a, .int .i64 b, .int .i64 c, .int .i64 d] 25)).below b1 (by simp)
  rw [World.size_alloc, World.size_alloc] at B3
  have q1 := Lib.hid ((((((Below.refl w.heap.size w).alloc (Nat.le_refl _) _).alloc (by simp) _).alloc (by simp; omega) _).alloc (by simp; omega) _).trans (b1.mono (by simp; omega)))
  clear b1
  rw [M.allB2]
  obtain ⟨c7, c8, f1, f2, c9⟩ := B3
  cases h1 : M.pvB a b
  · have hfin := Lib.hid (M.mid_no (a := a) (b := b) (c := c) (d := d) (by simp [h1]))
    go_wp2_with fail
    refine bodyPost_ret (v := .agg #[.int .i64 0, .int .i64 0]) (by simp [results, Try.results18, go_sem, c7, c8]) rfl ⟨ret_val hfin.out.symm, ?_⟩
    exact (q1.out.setCell (by simp; omega) _).setCell (by simp; omega) _
  · cases h2 : M.pvB c d
    · have hfin := Lib.hid (M.mid_no (a := a) (b := b) (c := c) (d := d) (by simp [h2]))
      go_wp2_with fail
      refine bodyPost_ret (v := .agg #[.int .i64 0, .int .i64 0]) (by simp [results, Try.results18, go_sem, c7, c8]) rfl ⟨ret_val hfin.out.symm, ?_⟩
      exact (q1.out.setCell (by simp; omega) _).setCell (by simp; omega) _
    · have hfin := Lib.hid (M.mid_yes h1 h2)
      obtain ⟨c1, c2, c3⟩ := B1
      obtain ⟨c4, c5, c6⟩ := B2
      obtain ⟨g1, g2, g3, g4⟩ := M.pvB_true.1 h1
      obtain ⟨g5, g6, g7, g8⟩ := M.pvB_true.1 h2
      go_wp2_with fail
      have e1 : IntKind.i64.wrap (a + c) = a + c := IntWalk.i64_in _ (by omega)
      have e2 : IntKind.i64.wrap (b + d) = b + d := IntWalk.i64_in _ (by omega)
      refine wp_region_still_tail 13 (by kernel_rfl) (by kernel_rfl) ?_
      simp only [List.take_succ_cons, List.take_zero, List.drop_succ_cons, List.drop_zero]
      change wpStill _ _ (World.drew _) (fun a' => wpList _ _ _ _ a' (World.drew _)) _ _
      repeat still_step
      still_call (still_of (impl_floor (a + c) 2 _ (by omega) (by omega) (by omega) (by omega)))
      repeat still_step
      still_call (still_of (impl_floor (b + d) 2 _ (by omega) (by omega) (by omega) (by omega)))
      repeat still_step
      refine wpStill_nil ?_
      go_wp2_with fail
      refine bodyPost_ret (v := .agg #[.int .i64 ((a + c) / 2), .int .i64 ((b + d) / 2)]) (by simp [results, Try.results18, go_sem, c7, c8]) rfl ⟨ret_val hfin.out.symm, ?_⟩
      exact ((q1.out.setCell (by simp; omega) _).setCell (by simp; omega) _).drew
theorem spec_mid2 (a b c d : Int) (w : World) :
    Calls Try.prog 17 #[.agg #[.int .i64 a, .int .i64 b], .agg #[.int .i64 c, .int .i64 d]] w fun e w' => e = .returned (.agg #[.int .i64 (M.midx a b c d), .int .i64 (M.midy a b c d)]) ∧ Below w.heap.size w w' := spec_mid a b c d w
theorem impl_mid2 (a b c d : Int) (w : World) :
    Calls Try.prog 18 #[.agg #[.int .i64 a, .int .i64 b], .agg #[.int .i64 c, .int .i64 d]] w fun e w' => e = .returned (.agg #[.int .i64 (M.midx a b c d), .int .i64 (M.midy a b c d)]) ∧ Below w.heap.size w w' := impl_mid a b c d w
/-- behind the first statement of a law over two middles -/
def MidRel (w : World) (x0 y0 x1 y1 : Int) (s5 : Value) (wx : World) : Prop :=
  ∃ g : Nat, s5 = .pointer (some ⟨g, 0, none⟩) ∧ Box wx g (M.midx x0 y0 x1 y1) (M.midy x0 y0 x1 y1) ∧ Box wx w.heap.size x0 y0 ∧ Box wx (w.heap.size + 1) x1 y1 ∧ Below w.heap.size w wx
theorem MidRel.intro {w wx : World} {x0 y0 x1 y1 : Int} {g : Nat}
    (h : (wx.cell? ⟨w.heap.size, 0, none⟩ = some (.int .i64 x0) ∧ wx.cell? ⟨w.heap.size, 1, none⟩ = some (.int .i64 y0)) ∧ (wx.cell? ⟨w.heap.size + 1, 0, none⟩ = some (.int .i64 x1) ∧ wx.cell? ⟨w.heap.size + 1, 1, none⟩ = some (.int .i64 y1)))
    (h0 : wx.cell? ⟨g, 0, none⟩ = some (.int .i64 (M.midx x0 y0 x1 y1))) (h1 : wx.cell? ⟨g, 1, none⟩ = some (.int .i64 (M.midy x0 y0 x1 y1))) (hb : Below w.heap.size w wx) : MidRel w x0 y0 x1 y1 (.pointer (some ⟨g, 0, none⟩)) wx :=
  ⟨g, rfl, ⟨h0, h1, World.block_lt_of_cell? _ _ h0⟩, ⟨h.1.1, h.1.2, World.block_lt_of_cell? _ _ h.1.1⟩, ⟨h.2.1, h.2.2, World.block_lt_of_cell? _ _ h.2.1⟩, hb⟩
theorem eq_point (a b : Int) (w : World) :
    Calls Try.prog 19 #[.agg #[.int .i64 a, .int .i64 b], .agg #[.int .i64 a, .int .i64 b]] w fun e w' => e = .returned (.bool true) ∧ Below w.heap.size w w' := by
  go_enter Try.func19, Try.ntmps19
  go_wp2
  go_ret
  exact ⟨rfl, ((Below.refl _ _).alloc (Nat.le_refl _) _).alloc (by simp) _⟩
end Go.Proofs.Ytidlmganlcgeaaa
