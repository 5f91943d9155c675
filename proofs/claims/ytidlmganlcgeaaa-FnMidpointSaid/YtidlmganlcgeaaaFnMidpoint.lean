/- Proves that the law FnMidpoint returns true for every input. Conditions: none. -/
import Derived.Test.YtidlmganlcgeaaaRows
import Derived.Test.YtidlmganlcgeaaaMid
import Derived.Test.YtidlmganlcgeaaaDrawMid
import Derived.Test.YtidlmganlcgeaaaAlive
import Derived.ChangeOld
import Derived.ShutString
import Derived.Lib.SmallJoins
namespace Go.Proofs.Ytidlmganlcgeaaa.fnMidpoint
open Go.ChangeShapes Go.WideShapes Go.ChangeAt Go.RowKit
set_option linter.unusedVariables false
theorem mid_comm (x y z u : Int) : M.midx z u x y = M.midx x y z u ∧ M.midy z u x y = M.midy x y z u := by
  unfold M.midx M.midy
  by_cases h : M.pvB x y = true ∧ M.pvB z u = true
  · rw [if_pos h, if_pos ⟨h.2, h.1⟩, if_pos h, if_pos ⟨h.2, h.1⟩, Int.add_comm z x, Int.add_comm u y]; exact ⟨rfl, rfl⟩
  · rw [if_neg h, if_neg (fun h' => h ⟨h'.2, h'.1⟩), if_neg h, if_neg (fun h' => h ⟨h'.2, h'.1⟩)]; exact ⟨rfl, rfl⟩
theorem mid_no (x y z u : Int) (h : ¬ (M.pvB x y = true ∧ M.pvB z u = true)) : M.midx x y z u = 0 ∧ M.midy x y z u = 0 := by
  unfold M.midx M.midy; rw [if_neg h, if_neg h]; exact ⟨rfl, rfl⟩
theorem mid_self (x y : Int) (h : M.pvB x y = true) : M.midx x y x y = x ∧ M.midy x y x y = y := by
  unfold M.midx M.midy; rw [if_pos ⟨h, h⟩, if_pos ⟨h, h⟩]; omega
theorem mid_bd (x y z u : Int) (h : M.pvB x y = true) (h2 : M.pvB z u = true) : (2 * M.midx x y z u ≤ x + z ∧ x + z ≤ 2 * M.midx x y z u + 1) ∧ (2 * M.midy x y z u ≤ y + u ∧ y + u ≤ 2 * M.midy x y z u + 1) := by
  unfold M.midx M.midy; rw [if_pos ⟨h, h2⟩, if_pos ⟨h, h2⟩]; omega
set_option maxHeartbeats 4000000 in
theorem walk (a0 : Option Addr) (len0 cap0 : Nat) (z0 : List Int) (w : World) (w0 : IsRow .u8 w a0 len0 cap0 z0) :
    Calls Try.prog 9 #[.slice a0 len0 cap0] w fun e w' => e = .returned (.bool true) ∧ Below w.heap.size w w' := by
  by_cases hlen : (1048576 : Int) < len0
  · go_enter Try.func9, Try.ntmps9
    go_wp2
    go_ret
    exact ⟨rfl, Below.refl _ _⟩
  · go_enter Try.func9, Try.ntmps9
    go_wp2_with fail
    refine (draw_mid a0 len0 cap0 z0 _ w0).mono ?_
    rintro e w1 ⟨⟨x, y, z, u, rfl, ⟨⟨x1, x2⟩, ⟨y1, y2⟩⟩, ⟨⟨z1, z2⟩, ⟨u1, u2⟩⟩⟩, b1⟩
    have B0 := (Box.new w1 x y 25).alloc (.cells #[.int .i64 z, .int .i64 u] 25)
    have B1 := Box.new (w1.alloc (.cells #[.int .i64 x, .int .i64 y] 25)) z u 25
    rw [World.size_alloc] at B1
    have hq := Lib.hid (bel_alloc (bel_alloc b1 (.cells #[.int .i64 x, .int .i64 y] 25)) (.cells #[.int .i64 z, .int .i64 u] 25))
    obtain ⟨c1, c2, c3⟩ := B0
    obtain ⟨c4, c5, c6⟩ := B1
    clear b1 w0
    go_wp2_with fail
    refine (impl_mid2 x y z u _).mono ?_
    rintro e w2 ⟨rfl, b⟩
    have B0 := (Box.below ⟨c1, c2, c3⟩ b c3).alloc (.cells #[.int .i64 (M.midx x y z u), .int .i64 (M.midy x y z u)] 25)
    have B1 := (Box.below ⟨c4, c5, c6⟩ b c6).alloc (.cells #[.int .i64 (M.midx x y z u), .int .i64 (M.midy x y z u)] 25)
    have B5 := Box.new w2 (M.midx x y z u) (M.midy x y z u) 25
    have hq := Lib.hid (bel_alloc (bel_trans hq.out (Lib.hid b)) (.cells #[.int .i64 (M.midx x y z u), .int .i64 (M.midy x y z u)] 25))
    clear b c1 c2 c3 c4 c5 c6
    go_wp2_with fail
    obtain ⟨c1, c2, c3⟩ := B0
    obtain ⟨c4, c5, c6⟩ := B1
    obtain ⟨c7, c8, c9⟩ := B5
    generalize w2.alloc (.cells #[.int .i64 (M.midx x y z u), .int .i64 (M.midy x y z u)] 25) = v at *
    have s := And.intro (And.intro c1 c2) (And.intro (And.intro c4 c5) (And.intro c7 c8))
    obtain ⟨e1, e2⟩ := mid_comm x y z u
    clear c1 c2 c4 c5 c7 c8
    cases h1 : M.pvB x y
    · obtain ⟨e3, e4⟩ := mid_no x y z u (by simp [h1])
      go_region_held3 (fun w' => (w'.cell? ⟨w1.heap.size, 0, none⟩ = some (.int .i64 x) ∧ w'.cell? ⟨w1.heap.size, 1, none⟩ = some (.int .i64 y)) ∧ (w'.cell? ⟨w1.heap.size + 1, 0, none⟩ = some (.int .i64 z) ∧ w'.cell? ⟨w1.heap.size + 1, 1, none⟩ = some (.int .i64 u)) ∧ (w'.cell? ⟨w2.heap.size, 0, none⟩ = some (.int .i64 (M.midx x y z u)) ∧ w'.cell? ⟨w2.heap.size, 1, none⟩ = some (.int .i64 (M.midy x y z u)))) (first | (with_reducible assumption) | go_keep) (first | (go_at_call 17; refine (spec_mid2 _ _ _ _ _).mono ?_; rintro e wn ⟨rfl, b⟩; have hb := Lib.hid b; have s := keep6 b (by with_reducible assumption); have zz1 : w1.heap.size < wn.heap.size := World.block_lt_of_cell? _ _ s.1.1; have zz2 : w1.heap.size + 1 < wn.heap.size := World.block_lt_of_cell? _ _ s.2.1.1; have zz3 : w2.heap.size < wn.heap.size := World.block_lt_of_cell? _ _ s.2.2.1; clear b) | (go_at_call 18; refine (impl_mid2 _ _ _ _ _).mono ?_; rintro e wn ⟨rfl, b⟩; have hb := Lib.hid b; have s := keep6 b (by with_reducible assumption); have zz1 : w1.heap.size < wn.heap.size := World.block_lt_of_cell? _ _ s.1.1; have zz2 : w1.heap.size + 1 < wn.heap.size := World.block_lt_of_cell? _ _ s.2.1.1; have zz3 : w2.heap.size < wn.heap.size := World.block_lt_of_cell? _ _ s.2.2.1; clear b))
      go_wp2_with (first | (go_at_call 11; refine (spec_pv _ _ _).mono ?_; rintro e wn ⟨rfl, b⟩; have hb := Lib.hid b; have s := keep6 b (by with_reducible assumption); have zz1 : w1.heap.size < wn.heap.size := World.block_lt_of_cell? _ _ s.1.1; have zz2 : w1.heap.size + 1 < wn.heap.size := World.block_lt_of_cell? _ _ s.2.1.1; have zz3 : w2.heap.size < wn.heap.size := World.block_lt_of_cell? _ _ s.2.2.1; clear b) | (go_at_call 23; refine (alive _).mono ?_; rintro e w' ⟨rfl, rfl⟩))
      go_ret
      exact ⟨ret_bool (by simp), by repeat (first | exact hq.out | refine Below.drew ?_ | refine bel_alloc ?_ _ | refine bel_trans ?_ (by with_reducible assumption))⟩
    · cases h2 : M.pvB z u
      · obtain ⟨e3, e4⟩ := mid_no x y z u (by simp [h2])
        go_region_held3 (fun w' => (w'.cell? ⟨w1.heap.size, 0, none⟩ = some (.int .i64 x) ∧ w'.cell? ⟨w1.heap.size, 1, none⟩ = some (.int .i64 y)) ∧ (w'.cell? ⟨w1.heap.size + 1, 0, none⟩ = some (.int .i64 z) ∧ w'.cell? ⟨w1.heap.size + 1, 1, none⟩ = some (.int .i64 u)) ∧ (w'.cell? ⟨w2.heap.size, 0, none⟩ = some (.int .i64 (M.midx x y z u)) ∧ w'.cell? ⟨w2.heap.size, 1, none⟩ = some (.int .i64 (M.midy x y z u)))) (first | (with_reducible assumption) | go_keep) (first | (go_at_call 17; refine (spec_mid2 _ _ _ _ _).mono ?_; rintro e wn ⟨rfl, b⟩; have hb := Lib.hid b; have s := keep6 b (by with_reducible assumption); have zz1 : w1.heap.size < wn.heap.size := World.block_lt_of_cell? _ _ s.1.1; have zz2 : w1.heap.size + 1 < wn.heap.size := World.block_lt_of_cell? _ _ s.2.1.1; have zz3 : w2.heap.size < wn.heap.size := World.block_lt_of_cell? _ _ s.2.2.1; clear b) | (go_at_call 18; refine (impl_mid2 _ _ _ _ _).mono ?_; rintro e wn ⟨rfl, b⟩; have hb := Lib.hid b; have s := keep6 b (by with_reducible assumption); have zz1 : w1.heap.size < wn.heap.size := World.block_lt_of_cell? _ _ s.1.1; have zz2 : w1.heap.size + 1 < wn.heap.size := World.block_lt_of_cell? _ _ s.2.1.1; have zz3 : w2.heap.size < wn.heap.size := World.block_lt_of_cell? _ _ s.2.2.1; clear b))
        go_wp2_with (first | (go_at_call 11; refine (spec_pv _ _ _).mono ?_; rintro e wn ⟨rfl, b⟩; have hb := Lib.hid b; have s := keep6 b (by with_reducible assumption); have zz1 : w1.heap.size < wn.heap.size := World.block_lt_of_cell? _ _ s.1.1; have zz2 : w1.heap.size + 1 < wn.heap.size := World.block_lt_of_cell? _ _ s.2.1.1; have zz3 : w2.heap.size < wn.heap.size := World.block_lt_of_cell? _ _ s.2.2.1; clear b) | (go_at_call 23; refine (alive _).mono ?_; rintro e w' ⟨rfl, rfl⟩))
        go_ret
        exact ⟨ret_bool (by simp), by repeat (first | exact hq.out | refine Below.drew ?_ | refine bel_alloc ?_ _ | refine bel_trans ?_ (by with_reducible assumption))⟩
      · obtain ⟨e3, e4⟩ := mid_self x y h1
        obtain ⟨⟨e5, e6⟩, ⟨e7, e8⟩⟩ := mid_bd x y z u h1 h2
        have k1 : IntKind.i64.wrap (x + z) = x + z := IntWalk.i64_in _ (by omega)
        have k2 : IntKind.i64.wrap (y + u) = y + u := IntWalk.i64_in _ (by omega)
        have k3 : IntKind.i64.wrap (2 * M.midx x y z u) = 2 * M.midx x y z u := IntWalk.i64_in _ (by omega)
        have k4 : IntKind.i64.wrap (2 * M.midy x y z u) = 2 * M.midy x y z u := IntWalk.i64_in _ (by omega)
        have k5 : IntKind.i64.wrap (2 * M.midx x y z u + 1) = 2 * M.midx x y z u + 1 := IntWalk.i64_in _ (by omega)
        have k6 : IntKind.i64.wrap (2 * M.midy x y z u + 1) = 2 * M.midy x y z u + 1 := IntWalk.i64_in _ (by omega)
        go_region_held3 (fun w' => (w'.cell? ⟨w1.heap.size, 0, none⟩ = some (.int .i64 x) ∧ w'.cell? ⟨w1.heap.size, 1, none⟩ = some (.int .i64 y)) ∧ (w'.cell? ⟨w1.heap.size + 1, 0, none⟩ = some (.int .i64 z) ∧ w'.cell? ⟨w1.heap.size + 1, 1, none⟩ = some (.int .i64 u)) ∧ (w'.cell? ⟨w2.heap.size, 0, none⟩ = some (.int .i64 (M.midx x y z u)) ∧ w'.cell? ⟨w2.heap.size, 1, none⟩ = some (.int .i64 (M.midy x y z u)))) (first | (with_reducible assumption) | go_keep) (first | (go_at_call 17; refine (spec_mid2 _ _ _ _ _).mono ?_; rintro e wn ⟨rfl, b⟩; have hb := Lib.hid b; have s := keep6 b (by with_reducible assumption); have zz1 : w1.heap.size < wn.heap.size := World.block_lt_of_cell? _ _ s.1.1; have zz2 : w1.heap.size + 1 < wn.heap.size := World.block_lt_of_cell? _ _ s.2.1.1; have zz3 : w2.heap.size < wn.heap.size := World.block_lt_of_cell? _ _ s.2.2.1; clear b) | (go_at_call 18; refine (impl_mid2 _ _ _ _ _).mono ?_; rintro e wn ⟨rfl, b⟩; have hb := Lib.hid b; have s := keep6 b (by with_reducible assumption); have zz1 : w1.heap.size < wn.heap.size := World.block_lt_of_cell? _ _ s.1.1; have zz2 : w1.heap.size + 1 < wn.heap.size := World.block_lt_of_cell? _ _ s.2.1.1; have zz3 : w2.heap.size < wn.heap.size := World.block_lt_of_cell? _ _ s.2.2.1; clear b))
        go_wp2_with (first | (go_at_call 11; refine (spec_pv _ _ _).mono ?_; rintro e wn ⟨rfl, b⟩; have hb := Lib.hid b; have s := keep6 b (by with_reducible assumption); have zz1 : w1.heap.size < wn.heap.size := World.block_lt_of_cell? _ _ s.1.1; have zz2 : w1.heap.size + 1 < wn.heap.size := World.block_lt_of_cell? _ _ s.2.1.1; have zz3 : w2.heap.size < wn.heap.size := World.block_lt_of_cell? _ _ s.2.2.1; clear b) | (go_at_call 23; refine (alive _).mono ?_; rintro e w' ⟨rfl, rfl⟩))
        go_region_held3 (fun w' => (w'.cell? ⟨w1.heap.size, 0, none⟩ = some (.int .i64 x) ∧ w'.cell? ⟨w1.heap.size, 1, none⟩ = some (.int .i64 y)) ∧ (w'.cell? ⟨w1.heap.size + 1, 0, none⟩ = some (.int .i64 z) ∧ w'.cell? ⟨w1.heap.size + 1, 1, none⟩ = some (.int .i64 u)) ∧ (w'.cell? ⟨w2.heap.size, 0, none⟩ = some (.int .i64 (M.midx x y z u)) ∧ w'.cell? ⟨w2.heap.size, 1, none⟩ = some (.int .i64 (M.midy x y z u)))) (first | (with_reducible assumption) | go_keep) (first | (go_at_call 17; refine (spec_mid2 _ _ _ _ _).mono ?_; rintro e wn ⟨rfl, b⟩; have hb := Lib.hid b; have s := keep6 b (by with_reducible assumption); have zz1 : w1.heap.size < wn.heap.size := World.block_lt_of_cell? _ _ s.1.1; have zz2 : w1.heap.size + 1 < wn.heap.size := World.block_lt_of_cell? _ _ s.2.1.1; have zz3 : w2.heap.size < wn.heap.size := World.block_lt_of_cell? _ _ s.2.2.1; clear b) | (go_at_call 18; refine (impl_mid2 _ _ _ _ _).mono ?_; rintro e wn ⟨rfl, b⟩; have hb := Lib.hid b; have s := keep6 b (by with_reducible assumption); have zz1 : w1.heap.size < wn.heap.size := World.block_lt_of_cell? _ _ s.1.1; have zz2 : w1.heap.size + 1 < wn.heap.size := World.block_lt_of_cell? _ _ s.2.1.1; have zz3 : w2.heap.size < wn.heap.size := World.block_lt_of_cell? _ _ s.2.2.1; clear b))
        go_wp2_with fail
        go_ret
        exact ⟨ret_bool (by simp), by repeat (first | exact hq.out | refine Below.drew ?_ | refine bel_alloc ?_ _ | refine bel_trans ?_ (by with_reducible assumption))⟩
theorem own : ownKnob Try.prog.godebug = none := by kernel_rfl
theorem laidOut : laidOutB Try.prog = true := by kernel_rfl
set_option maxRecDepth 100000 in
theorem lifted (os : Os) (started : os.Started) (H : Type) (enc : TypeId × Value → H) :
    ReturnsInHanded {} Try.checked os 9 .any (Rows.fnMidpointSpec.pre6 enc Try.prog Try.f9 Rows.fnMidpointRow.domain false) (Rows.fnMidpointSpec.post enc Try.prog Try.f9 false true false false) := by
  refine returnsInHanded_of_change (C := Try.checked) own started (by kernel_rfl) Try.func9
    (ChangeSpec.witness6 (enc := enc) (C := Try.checked) false ⟨#[], #[.slice none 0 0], []⟩ 8 (by kernel_rfl) (by kernel_rfl) (by kernel_rfl) (by kernel_rfl)) ?_
  intro W base args ds gs before hval0 hW hcnd _
  have hval : ∀ (j : Nat) t v, Try.f9.params[j]? = some t → args[j]? = some v → Value.okWide Try.prog W .any base t v := hval0
  have hW' := hW
  obtain ⟨p, q, hA0, hV, rfl, hfz, hnd⟩ := hW
  have hA : DataW.TrodAll enc Try.prog W 0 (fun _ => true) true Try.f9.params.toList args.toList ds p := hA0
  rw [Try.params9] at hA hval
  obtain ⟨v0_, vs0, d0, ds0, p0, q0, hargs, rfl, rfl, h0, r0⟩ := trodAll_cons hA
  obtain ⟨rfl, rfl, rfl⟩ := trodAll_nil r0
  obtain rfl : args = #[v0_] := by cases args; simp_all
  obtain ⟨rfl, rfl⟩ := trodVars_none hV
  obtain ⟨a0, len0, cap0, rfl⟩ := okWide_slice Try.underlying30 (hval 0 30 v0_ rfl rfl)
  have k0 := h0
  have lt0 : ∀ x ∈ p0, x.block < W.heap.size := by obtain ⟨m, hm⟩ := k0; exact DataW.trod_lt m _ _ _ hm
  obtain ⟨z0, w0⟩ : ∃ zs, IsRow .u8 W a0 len0 cap0 zs := by
    obtain ⟨fuel, hf⟩ := h0
    rcases open_ints Try.underlying30 Try.underlying5 (by kernel_rfl) hf with ⟨hcs, _⟩ | ⟨x, l, c, zs, hcs, _, hl, hm, hz, _, hcell, hwz⟩
    · simp [Value.cells] at hcs
      obtain ⟨rfl, rfl, rfl⟩ := hcs
      exact ⟨[], .inl ⟨rfl, rfl, rfl, rfl⟩⟩
    · simp [Value.cells] at hcs
      obtain ⟨rfl, rfl, rfl⟩ := hcs
      exact ⟨zs, .inr ⟨_, rfl, hl, hm, by simpa using hz, hcell, hwz⟩⟩
  clear hA0 hval0
  refine (walk a0 len0 cap0 z0 W w0).mono fun e W' ⟨he, bel⟩ => ?_
  subst he
  exact ⟨_, rfl, _, _, _, [], _, [], hW', trodAll_mk1 (shut_bool Try.underlying4 _), (trodAll_cons_mk (Below.trod laidOut (by kernel_rfl) (of_decide_eq_true (by kernel_rfl)) k0 bel lt0) trodAll_mk0), rfl, bel.frame _, fun h => by cases h⟩
theorem over : Rows.fnMidpointRow.holds Try.pinned (OpenSpec.ofChange Rows.fnMidpointSpec) :=
  OpenClaim.holds_of_wide 9 Try.f9 rfl rfl rfl rfl rfl rfl rfl ⟨rfl, rfl, rfl, rfl, rfl⟩ rfl rfl rfl rfl rfl (by kernel_rfl) Try.func9 (by kernel_rfl)
    (of_decide_eq_true (by kernel_rfl)) (by unfold Func.isWrapper; first | (rw [if_pos (by decide +kernel)]; kernel_rfl) | (rw [if_neg (by decide +kernel)]; exact ⟨rfl, rfl⟩))
    (fun os started H enc _ => lifted os started H enc)
theorem proved : Rows.FnMidpointSaid := over
#print axioms proved
end Go.Proofs.Ytidlmganlcgeaaa.fnMidpoint
