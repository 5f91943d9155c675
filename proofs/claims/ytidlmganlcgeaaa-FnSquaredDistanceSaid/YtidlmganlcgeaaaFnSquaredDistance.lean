/- Proves that the law FnSquaredDistance returns true for every input. Conditions: none. -/
import Derived.Test.YtidlmganlcgeaaaRows
import Derived.Test.YtidlmganlcgeaaaDrawSq
import Derived.Test.YtidlmganlcgeaaaAlive
import Derived.ChangeOld
import Derived.ShutString
import Derived.Lib.SmallJoins
namespace Go.Proofs.Ytidlmganlcgeaaa.fnSquaredDistance
open Go.ChangeShapes Go.WideShapes Go.ChangeAt Go.RowKit
set_option linter.unusedVariables false
theorem sq_comm (x y z u : Int) : M.sq z u x y = M.sq x y z u := by
  unfold M.sq
  by_cases h : M.pvB x y = true ∧ M.pvB z u = true
  · rw [if_pos h, if_pos ⟨h.2, h.1⟩, show z - x = -(x - z) by omega, show u - y = -(y - u) by omega, Int.neg_mul_neg, Int.neg_mul_neg]
  · rw [if_neg h, if_neg (fun h' => h ⟨h'.2, h'.1⟩)]
theorem sq_nonneg (a : Int) : 0 ≤ a * a := by
  rcases Int.le_total 0 a with h | h
  · exact Int.mul_nonneg h h
  · have := Int.mul_nonneg (show 0 ≤ -a by omega) (show 0 ≤ -a by omega); rw [Int.neg_mul_neg] at this; exact this
theorem sq_pos (a : Int) (h : a ≠ 0) : 0 < a * a := by
  have h0 := sq_nonneg a
  have h1 : a * a ≠ 0 := by intro e; rcases Int.mul_eq_zero.1 e with h2 | h2 <;> exact h h2
  omega
theorem sq_four (x y z u : Int) (h : M.pvB x y = true) (h2 : M.pvB z u = true) (h3 : M.pvB (2 * z - x) (2 * u - y) = true) : M.sq x y (2 * z - x) (2 * u - y) = 4 * M.sq x y z u := by
  rw [M.sq_yes h h3, M.sq_yes h h2, show x - (2 * z - x) = 2 * (x - z) by omega, show y - (2 * u - y) = 2 * (y - u) by omega]
  have e : ∀ a : Int, 2 * a * (2 * a) = 4 * (a * a) := fun a => by rw [Int.mul_assoc, Int.mul_left_comm a 2 a]; omega
  rw [e, e]; omega
theorem sq_self (x y : Int) (h : M.pvB x y = true) : M.sq x y x y = 0 := by rw [M.sq_yes h h]; simp
theorem sq_ne (x y z u : Int) (h : M.pvB x y = true) (h2 : M.pvB z u = true) (hn : ¬ (x = z ∧ y = u)) : 0 < M.sq x y z u := by
  rw [M.sq_yes h h2]
  have a1 := sq_nonneg (x - z)
  have a2 := sq_nonneg (y - u)
  by_cases e : x = z
  · have := sq_pos (y - u) (by omega); omega
  · have := sq_pos (x - z) (by omega); omega
theorem sq_le (x y z u : Int) (h : M.pvB x y = true) (h2 : M.pvB z u = true) : 0 ≤ M.sq x y z u ∧ M.sq x y z u ≤ 800000000 := by
  obtain ⟨_, ⟨g5, g6⟩, ⟨g7, g8⟩⟩ := M.sq_bd h h2
  have a1 := sq_nonneg (x - z)
  have a2 := sq_nonneg (y - u)
  rw [M.sq_yes h h2]; omega
set_option maxHeartbeats 1000000 in
theorem walk (a0 : Option Addr) (len0 cap0 : Nat) (z0 : List Int) (w : World) (w0 : IsRow .u8 w a0 len0 cap0 z0) :
    Calls Try.prog 8 #[.slice a0 len0 cap0] w fun e w' => e = .returned (.bool true) ∧ Below w.heap.size w w' := by
  by_cases hlen : (1048576 : Int) < len0
  · go_enter Try.func8, Try.ntmps8
    go_wp2
    go_ret
    exact ⟨rfl, Below.refl _ _⟩
  · go_enter Try.func8, Try.ntmps8
    go_wp2_with fail
    refine (draw_sq a0 len0 cap0 z0 _ w0).mono ?_
    rintro e w1 ⟨⟨x, y, z, u, rfl, ⟨⟨x1, x2⟩, ⟨y1, y2⟩⟩, ⟨⟨z1, z2⟩, ⟨u1, u2⟩⟩⟩, b1⟩
    have B0 := (Box.new w1 x y 25).alloc (.cells #[.int .i64 z, .int .i64 u] 25)
    have B1 := Box.new (w1.alloc (.cells #[.int .i64 x, .int .i64 y] 25)) z u 25
    rw [World.size_alloc] at B1
    have hq := Lib.hid (bel_alloc (bel_alloc b1 (.cells #[.int .i64 x, .int .i64 y] 25)) (.cells #[.int .i64 z, .int .i64 u] 25))
    obtain ⟨c1, c2, c3⟩ := B0
    obtain ⟨c4, c5, c6⟩ := B1
    have s := And.intro (And.intro c1 c2) (And.intro c4 c5)
    have e1 := sq_comm x y z u
    have g1 : ∀ (W : World) (o : Obj) (b k : Nat), b < W.heap.size → (W.alloc o).cell? ⟨b, k, none⟩ = W.cell? ⟨b, k, none⟩ := fun W o b k h => World.cell?_alloc_lt _ _ _ h
    clear b1 w0 c3 c6
    cases h1 : M.pvB x y
    · have e0 : M.sq x y z u = -1 := M.sq_no1 h1
      go_wp2_with (first | (go_at_call 15; refine (impl_sq _ _ _ _ _).mono ?_; rintro e wn ⟨rfl, b⟩; have hb := Lib.hid b; have s := keep4 b (by with_reducible assumption); have zz1 : w1.heap.size < wn.heap.size := World.block_lt_of_cell? _ _ s.1.1; have zz2 : w1.heap.size + 1 < wn.heap.size := World.block_lt_of_cell? _ _ s.2.1; clear b) | (go_at_call 14; refine (spec_sq _ _ _ _ _).mono ?_; rintro e wn ⟨rfl, b⟩; have hb := Lib.hid b; have s := keep4 b (by with_reducible assumption); have zz1 : w1.heap.size < wn.heap.size := World.block_lt_of_cell? _ _ s.1.1; have zz2 : w1.heap.size + 1 < wn.heap.size := World.block_lt_of_cell? _ _ s.2.1; clear b) | (go_at_call 23; refine (alive _).mono ?_; rintro e w' ⟨rfl, rfl⟩))
      go_ret
      exact ⟨ret_bool (by simp), by repeat (first | exact hq.out | refine Below.drew ?_ | refine bel_alloc ?_ _ | refine bel_trans ?_ (by with_reducible assumption))⟩
    · cases h2 : M.pvB z u
      · have e0 : M.sq x y z u = -1 := M.sq_no2 h2
        go_wp2_with (first | (go_at_call 15; refine (impl_sq _ _ _ _ _).mono ?_; rintro e wn ⟨rfl, b⟩; have hb := Lib.hid b; have s := keep4 b (by with_reducible assumption); have zz1 : w1.heap.size < wn.heap.size := World.block_lt_of_cell? _ _ s.1.1; have zz2 : w1.heap.size + 1 < wn.heap.size := World.block_lt_of_cell? _ _ s.2.1; clear b) | (go_at_call 14; refine (spec_sq _ _ _ _ _).mono ?_; rintro e wn ⟨rfl, b⟩; have hb := Lib.hid b; have s := keep4 b (by with_reducible assumption); have zz1 : w1.heap.size < wn.heap.size := World.block_lt_of_cell? _ _ s.1.1; have zz2 : w1.heap.size + 1 < wn.heap.size := World.block_lt_of_cell? _ _ s.2.1; clear b) | (go_at_call 23; refine (alive _).mono ?_; rintro e w' ⟨rfl, rfl⟩))
        go_ret
        exact ⟨ret_bool (by simp), by repeat (first | exact hq.out | refine Below.drew ?_ | refine bel_alloc ?_ _ | refine bel_trans ?_ (by with_reducible assumption))⟩
      · obtain ⟨n1, n2⟩ := sq_le x y z u h1 h2
        by_cases hxy : x = z ∧ y = u
        · obtain ⟨rfl, rfl⟩ := hxy
          have e5 := sq_self x y h1
          go_wp2_with (first | (go_at_call 15; refine (impl_sq _ _ _ _ _).mono ?_; rintro e wn ⟨rfl, b⟩; have hb := Lib.hid b; have s := keep4 b (by with_reducible assumption); have zz1 : w1.heap.size < wn.heap.size := World.block_lt_of_cell? _ _ s.1.1; have zz2 : w1.heap.size + 1 < wn.heap.size := World.block_lt_of_cell? _ _ s.2.1; clear b) | (go_at_call 14; refine (spec_sq _ _ _ _ _).mono ?_; rintro e wn ⟨rfl, b⟩; have hb := Lib.hid b; have s := keep4 b (by with_reducible assumption); have zz1 : w1.heap.size < wn.heap.size := World.block_lt_of_cell? _ _ s.1.1; have zz2 : w1.heap.size + 1 < wn.heap.size := World.block_lt_of_cell? _ _ s.2.1; clear b) | (go_at_call 23; refine (alive _).mono ?_; rintro e w' ⟨rfl, rfl⟩))
          have B6 := Box.new wn (2 * x - x) (2 * y - y) 25
          have s6 := keep4 ((Below.refl wn.heap.size wn).alloc (Nat.le_refl _) (.cells #[.int .i64 (2 * x - x), .int .i64 (2 * y - y)] 25)) s
          have s7 := And.intro s6.1 (And.intro s6.2 (And.intro B6.1 B6.2.1))
          clear B6 s6
          refine (impl_pv _ _ _).mono ?_
          rintro e wp ⟨rfl, b⟩
          have hb := Lib.hid b
          have s8 := keep6 b s7
          clear b s7
          cases h3 : M.pvB (2 * x - x) (2 * y - y)
          · go_wp2_with fail
            go_ret
            exact ⟨ret_bool (by simp), by repeat (first | exact hq.out | refine Below.drew ?_ | refine bel_alloc ?_ _ | refine bel_trans ?_ (by with_reducible assumption))⟩
          · have e4 := sq_four x y x y h1 h1 h3
            go_wp2_with (go_at_call 15; refine (impl_sq _ _ _ _ _).mono ?_; rintro e wr ⟨rfl, b⟩; have hb := Lib.hid b; clear b)
            go_ret
            exact ⟨ret_bool (by simp), by repeat (first | exact hq.out | refine Below.drew ?_ | refine bel_alloc ?_ _ | refine bel_trans ?_ (by with_reducible assumption))⟩
        · have n3 := sq_ne x y z u h1 h2 hxy
          have n4 : (M.sq x y z u == 0) = false := by simp; omega
          have n5 : ¬ M.sq x y z u = 0 := by omega
          by_cases hx : x = z
          · have hy : ¬ y = u := fun h => hxy ⟨hx, h⟩
            have hy2 : (y == u) = false := by simp [hy]
            clear hxy n3
            subst hx
            go_wp2_with (first | (go_at_call 15; refine (impl_sq _ _ _ _ _).mono ?_; rintro e wn ⟨rfl, b⟩; have hb := Lib.hid b; have s := keep4 b (by with_reducible assumption); have zz1 : w1.heap.size < wn.heap.size := World.block_lt_of_cell? _ _ s.1.1; have zz2 : w1.heap.size + 1 < wn.heap.size := World.block_lt_of_cell? _ _ s.2.1; clear b) | (go_at_call 14; refine (spec_sq _ _ _ _ _).mono ?_; rintro e wn ⟨rfl, b⟩; have hb := Lib.hid b; have s := keep4 b (by with_reducible assumption); have zz1 : w1.heap.size < wn.heap.size := World.block_lt_of_cell? _ _ s.1.1; have zz2 : w1.heap.size + 1 < wn.heap.size := World.block_lt_of_cell? _ _ s.2.1; clear b) | (go_at_call 23; refine (alive _).mono ?_; rintro e w' ⟨rfl, rfl⟩))
            have B6 := Box.new wn (2 * x - x) (2 * u - y) 25
            have s6 := keep4 ((Below.refl wn.heap.size wn).alloc (Nat.le_refl _) (.cells #[.int .i64 (2 * x - x), .int .i64 (2 * u - y)] 25)) s
            have s7 := And.intro s6.1 (And.intro s6.2 (And.intro B6.1 B6.2.1))
            clear B6 s6
            refine (impl_pv _ _ _).mono ?_
            rintro e wp ⟨rfl, b⟩
            have hb := Lib.hid b
            have s8 := keep6 b s7
            clear b s7
            cases h3 : M.pvB (2 * x - x) (2 * u - y)
            · go_wp2_with fail
              go_ret
              exact ⟨ret_bool (by simp), by repeat (first | exact hq.out | refine Below.drew ?_ | refine bel_alloc ?_ _ | refine bel_trans ?_ (by with_reducible assumption))⟩
            · have e4 := sq_four x y x u h1 h2 h3
              go_wp2_with (go_at_call 15; refine (impl_sq _ _ _ _ _).mono ?_; rintro e wr ⟨rfl, b⟩; have hb := Lib.hid b; clear b)
              go_ret
              exact ⟨ret_bool (by simp), by repeat (first | exact hq.out | refine Below.drew ?_ | refine bel_alloc ?_ _ | refine bel_trans ?_ (by with_reducible assumption))⟩
          · have hx2 : (x == z) = false := by simp [hx]
            clear hxy n3
            go_wp2_with (first | (go_at_call 15; refine (impl_sq _ _ _ _ _).mono ?_; rintro e wn ⟨rfl, b⟩; have hb := Lib.hid b; have s := keep4 b (by with_reducible assumption); have zz1 : w1.heap.size < wn.heap.size := World.block_lt_of_cell? _ _ s.1.1; have zz2 : w1.heap.size + 1 < wn.heap.size := World.block_lt_of_cell? _ _ s.2.1; clear b) | (go_at_call 14; refine (spec_sq _ _ _ _ _).mono ?_; rintro e wn ⟨rfl, b⟩; have hb := Lib.hid b; have s := keep4 b (by with_reducible assumption); have zz1 : w1.heap.size < wn.heap.size := World.block_lt_of_cell? _ _ s.1.1; have zz2 : w1.heap.size + 1 < wn.heap.size := World.block_lt_of_cell? _ _ s.2.1; clear b) | (go_at_call 23; refine (alive _).mono ?_; rintro e w' ⟨rfl, rfl⟩))
            have B6 := Box.new wn (2 * z - x) (2 * u - y) 25
            have s6 := keep4 ((Below.refl wn.heap.size wn).alloc (Nat.le_refl _) (.cells #[.int .i64 (2 * z - x), .int .i64 (2 * u - y)] 25)) s
            have s7 := And.intro s6.1 (And.intro s6.2 (And.intro B6.1 B6.2.1))
            clear B6 s6
            refine (impl_pv _ _ _).mono ?_
            rintro e wp ⟨rfl, b⟩
            have hb := Lib.hid b
            have s8 := keep6 b s7
            clear b s7
            cases h3 : M.pvB (2 * z - x) (2 * u - y)
            · go_wp2_with fail
              go_ret
              exact ⟨ret_bool (by simp), by repeat (first | exact hq.out | refine Below.drew ?_ | refine bel_alloc ?_ _ | refine bel_trans ?_ (by with_reducible assumption))⟩
            · have e4 := sq_four x y z u h1 h2 h3
              go_wp2_with (go_at_call 15; refine (impl_sq _ _ _ _ _).mono ?_; rintro e wr ⟨rfl, b⟩; have hb := Lib.hid b; clear b)
              go_ret
              exact ⟨ret_bool (by simp), by repeat (first | exact hq.out | refine Below.drew ?_ | refine bel_alloc ?_ _ | refine bel_trans ?_ (by with_reducible assumption))⟩
theorem own : ownKnob Try.prog.godebug = none := by kernel_rfl
theorem laidOut : laidOutB Try.prog = true := by kernel_rfl
set_option maxRecDepth 100000 in
theorem lifted (os : Os) (started : os.Started) (H : Type) (enc : TypeId × Value → H) :
    ReturnsInHanded {} Try.checked os 8 .any (Rows.fnSquaredDistanceSpec.pre6 enc Try.prog Try.f8 Rows.fnSquaredDistanceRow.domain false) (Rows.fnSquaredDistanceSpec.post enc Try.prog Try.f8 false true false false) := by
  refine returnsInHanded_of_change (C := Try.checked) own started (by kernel_rfl) Try.func8
    (ChangeSpec.witness6 (enc := enc) (C := Try.checked) false ⟨#[], #[.slice none 0 0], []⟩ 8 (by kernel_rfl) (by kernel_rfl) (by kernel_rfl) (by kernel_rfl)) ?_
  intro W base args ds gs before hval0 hW hcnd _
  have hval : ∀ (j : Nat) t v, Try.f8.params[j]? = some t → args[j]? = some v → Value.okWide Try.prog W .any base t v := hval0
  have hW' := hW
  obtain ⟨p, q, hA0, hV, rfl, hfz, hnd⟩ := hW
  have hA : DataW.TrodAll enc Try.prog W 0 (fun _ => true) true Try.f8.params.toList args.toList ds p := hA0
  rw [Try.params8] at hA hval
  obtain ⟨v0_, vs0, d0, ds0, p0, q0, hargs, rfl, rfl, h0, r0⟩ := trodAll_cons hA
  obtain ⟨rfl, rfl, rfl⟩ := trodAll_nil r0
  obtain rfl : args = #[v0_] := by cases args; simp_all
  obtain ⟨rfl, rfl⟩ := trodVars_none hV
  obtain ⟨a0, len0, cap0, rfl⟩ := okWide_slice Try.underlying30 (hval 0 30 v0_ rfl rfl)
  have k0 := h0
  have lt0 : ∀ x ∈ p0, x.block < W.heap.size := by obtain ⟨m, hm⟩ := k0; exact DataW.trod_lt m _ _ _ hm
  obtain ⟨z0, w0⟩ : ∃ zs, IsRow .u8 W a0 len0 cap0 zs := by
    obtain ⟨fuel, hf⟩ := h0
    rcases open_ints Try.underlying30 Try.underlying5 (by kernel_rfl) hf with ⟨hcs, _⟩ | ⟨x, l, c, zs, hcs, _, hl, hm, hz, _, hcell, hwz⟩
    · simp [Value.cells] at hcs
      obtain ⟨rfl, rfl, rfl⟩ := hcs
      exact ⟨[], .inl ⟨rfl, rfl, rfl, rfl⟩⟩
    · simp [Value.cells] at hcs
      obtain ⟨rfl, rfl, rfl⟩ := hcs
      exact ⟨zs, .inr ⟨_, rfl, hl, hm, by simpa using hz, hcell, hwz⟩⟩
  clear hA0 hval0
  refine (walk a0 len0 cap0 z0 W w0).mono fun e W' ⟨he, bel⟩ => ?_
  subst he
  exact ⟨_, rfl, _, _, _, [], _, [], hW', trodAll_mk1 (shut_bool Try.underlying4 _), (trodAll_cons_mk (Below.trod laidOut (by kernel_rfl) (of_decide_eq_true (by kernel_rfl)) k0 bel lt0) trodAll_mk0), rfl, bel.frame _, fun h => by cases h⟩
theorem over : Rows.fnSquaredDistanceRow.holds Try.pinned (OpenSpec.ofChange Rows.fnSquaredDistanceSpec) :=
  OpenClaim.holds_of_wide 8 Try.f8 rfl rfl rfl rfl rfl rfl rfl ⟨rfl, rfl, rfl, rfl, rfl⟩ rfl rfl rfl rfl rfl (by kernel_rfl) Try.func8 (by kernel_rfl)
    (of_decide_eq_true (by kernel_rfl)) (by unfold Func.isWrapper; first | (rw [if_pos (by decide +kernel)]; kernel_rfl) | (rw [if_neg (by decide +kernel)]; exact ⟨rfl, rfl⟩))
    (fun os started H enc _ => lifted os started H enc)
theorem proved : Rows.FnSquaredDistanceSaid := over
#print axioms proved
end Go.Proofs.Ytidlmganlcgeaaa.fnSquaredDistance
