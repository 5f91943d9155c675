/- Contracts of the direction of a point. -/
import Derived.Test.YtlngkgpbmadmcaaDoorTurn
namespace Go.Proofs.YtlngkgpbmadmcaaDoor
open Go.ChangeShapes Go.WideShapes Go.ChangeAt Go.RowKit
set_option linter.unusedVariables false
/-- the projection of a point on a direction, in units -/
def M.pj (x y d : Int) : Int := x * M.cosine d + y * M.sine d
/-- the first direction of 0..k with the greatest projection -/
def M.arg (x y : Int) : Nat → Nat
  | 0 => 0
  | k + 1 => if M.pj x y (M.arg x y k) < M.pj x y ((k + 1 : Nat) : Int) then k + 1 else M.arg x y k
def M.dir (x y : Int) : Int := if M.pvB x y = true ∧ ¬ (x = 0 ∧ y = 0) then (M.arg x y 359 : Nat) else -1
theorem M.dir_no {x y : Int} (h : M.pvB x y = false) : M.dir x y = -1 := by unfold M.dir; rw [if_neg (by simp [h])]
theorem M.dir_zero : M.dir 0 0 = -1 := by unfold M.dir; rw [if_neg (by simp)]
theorem M.dir_yes {x y : Int} (h : M.pvB x y = true) (h0 : ¬ (x = 0 ∧ y = 0)) : M.dir x y = (M.arg x y 359 : Nat) := by unfold M.dir; rw [if_pos ⟨h, h0⟩]
theorem arg_le (x y : Int) (k : Nat) : M.arg x y k ≤ k := by
  induction k with
  | zero => exact Nat.le_refl _
  | succ k ih => unfold M.arg; split <;> omega
theorem arg_up {x y : Int} {k b : Nat} (hk : 1 ≤ k) (hb : M.arg x y (k - 1) = b) (h : M.pj x y b < M.pj x y k) : k = M.arg x y k := by
  obtain ⟨j, rfl⟩ : ∃ j, k = j + 1 := ⟨k - 1, by omega⟩
  rw [Nat.add_sub_cancel] at hb; subst hb
  show _ = M.arg x y (j + 1); rw [M.arg, if_pos h]
theorem arg_stay {x y : Int} {k b : Nat} (hk : 1 ≤ k) (hb : M.arg x y (k - 1) = b) (h : ¬ M.pj x y b < M.pj x y k) : b = M.arg x y k := by
  obtain ⟨j, rfl⟩ : ∃ j, k = j + 1 := ⟨k - 1, by omega⟩
  rw [Nat.add_sub_cancel] at hb; subst hb
  show _ = M.arg x y (j + 1); rw [M.arg, if_neg h]
theorem arg_stay0 {x y : Int} {k b : Nat} (hb : M.arg x y (k - 1) = b) (h : ¬ M.pj x y b < M.pj x y k) : b = M.arg x y k := by
  rcases Nat.eq_zero_or_pos k with e | e
  · subst e; exact hb.symm
  · exact arg_stay e hb h
theorem arg_up0 {x y : Int} {k b : Nat} (hb : M.arg x y (k - 1) = b) (h : M.pj x y b < M.pj x y k) : k = M.arg x y k := by
  rcases Nat.eq_zero_or_pos k with e | e
  · subst e; have h0 : (0 : Nat) = b := hb; subst h0; exact absurd h (by omega)
  · exact arg_up e hb h
/-- its two properties -/
theorem arg_max (x y : Int) (k : Nat) : (∀ j : Nat, j ≤ k → M.pj x y j ≤ M.pj x y (M.arg x y k)) ∧ (∀ j : Nat, j < M.arg x y k → M.pj x y j < M.pj x y (M.arg x y k)) := by
  induction k with
  | zero => exact ⟨fun j hj => by obtain rfl : j = 0 := (by omega); exact Int.le_refl _, fun j hj => absurd hj (Nat.not_lt_zero _)⟩
  | succ k ih =>
    have hl := arg_le x y k
    unfold M.arg
    by_cases h : M.pj x y (M.arg x y k) < M.pj x y ((k + 1 : Nat) : Int)
    · rw [if_pos h]
      refine ⟨fun j hj => ?_, fun j hj => ?_⟩
      · rcases Nat.lt_or_ge k j with e | e
        · obtain rfl : j = k + 1 := (by omega); exact Int.le_refl _
        · have := ih.1 j e; omega
      · have := ih.1 j (by omega); omega
    · rw [if_neg h]
      refine ⟨fun j hj => ?_, ih.2⟩
      rcases Nat.lt_or_ge k j with e | e
      · obtain rfl : j = k + 1 := (by omega); omega
      · exact ih.1 j e
theorem keep2 {W wn : World} {k : Nat} {x y : Int} (b : Below W.heap.size W wn) (s : W.cell? ⟨k, 0, none⟩ = some (.int .i64 x) ∧ W.cell? ⟨k, 1, none⟩ = some (.int .i64 y)) :
    wn.cell? ⟨k, 0, none⟩ = some (.int .i64 x) ∧ wn.cell? ⟨k, 1, none⟩ = some (.int .i64 y) := by
  have h := World.block_lt_of_cell? _ _ s.1
  exact ⟨by rw [b.cell (p := ⟨k, 0, none⟩) h]; exact s.1, by rw [b.cell (p := ⟨k, 1, none⟩) h]; exact s.2⟩
set_option maxRecDepth 20000 in
set_option maxHeartbeats 4000000 in
theorem spec_dir (x y : Int) (w : World) :
    Calls Tryd.prog 27 #[.agg #[.int .i64 x, .int .i64 y]] w fun e w' => e = .returned (.int .i64 (M.dir x y)) ∧ Below w.heap.size w w' := by
  go_enter Tryd.func27, Tryd.ntmps27
  go_wp2_with fail
  refine (spec_pv _ _ _).mono ?_
  rintro e w1 ⟨rfl, b1⟩
  have B1 := (Box.new w x y 29).below b1 (by simp)
  have q1 := Lib.hid (((Below.refl w.heap.size w).alloc (Nat.le_refl _) (.cells #[.int .i64 x, .int .i64 y] 29)).trans (b1.mono (by simp)))
  clear b1
  obtain ⟨c1, c2, c3⟩ := B1
  cases hv : M.pvB x y
  · have hfin := Lib.hid (M.dir_no hv)
    go_wp2_with fail
    go_ret
    exact ⟨ret_int hfin.out.symm, q1.out⟩
  by_cases h0 : x = 0 ∧ y = 0
  · obtain ⟨rfl, rfl⟩ := h0
    go_wp2_with fail
    go_ret
    exact ⟨ret_int M.dir_zero.symm, q1.out⟩
  have hfin := Lib.hid (M.dir_yes hv h0)
  obtain ⟨v1, v2, v3, v4⟩ := M.pvB_true.1 hv
  have hne : ¬ (x = 0 ∧ y = 0) := h0
  go_wp2_with fail
  all_goals (try (rename_i hx0 hy0 K1 a1; have hx1 : x = 0 := hx0; clear hx1 hx0))
  all_goals
    go_loopw [3, 4] (fun b i wr => ∃ k : Nat, 1 ≤ k ∧ k ≤ 360 ∧ b = .int .i64 (M.arg x y (k - 1) : Nat) ∧ i = .int .i64 k ∧ Box wr w.heap.size x y ∧ Below w.heap.size w wr) (fun _ i _ => 360 - (intOf i).toNat)
    case atStart => exact ⟨1, by omega, by omega, rfl, rfl, ⟨c1, c2, c3⟩, q1.out⟩
    case round =>
      obtain ⟨k, hk, hk2, rfl, rfl, ⟨d1, d2, d3⟩, hq⟩ := hrel
      replace hq := Lib.hid hq
      clear c1 c2 c3 q1 hv
      by_cases hlt : k < 360
      · have hle := arg_le x y (k - 1)
        have hup := Lib.hid (fun (h : x * M.cosine (M.arg x y (k - 1) : Nat) + y * M.sine (M.arg x y (k - 1) : Nat) < x * M.cosine k + y * M.sine k) => arg_up (x := x) (y := y) hk rfl h)
        have hst := Lib.hid (fun (h : ¬ x * M.cosine (M.arg x y (k - 1) : Nat) + y * M.sine (M.arg x y (k - 1) : Nat) < x * M.cosine k + y * M.sine k) => arg_stay (x := x) (y := y) hk rfl h)
        generalize M.arg x y (k - 1) = m at *
        obtain ⟨⟨⟨g1, g2⟩, ⟨g3, g4⟩⟩, _⟩ := turn_bd (x := x) (y := y) (k : Int) (by omega) (by omega) (by omega) (by omega)
        have g5 : IntKind.i64.wrap (x * M.cosine (k : Int)) = x * M.cosine (k : Int) := IntWalk.i64_in _ (by omega)
        have g6 : IntKind.i64.wrap (y * M.sine (k : Int)) = y * M.sine (k : Int) := IntWalk.i64_in _ (by omega)
        have g7 : IntKind.i64.wrap (x * M.cosine (k : Int) + y * M.sine (k : Int)) = x * M.cosine (k : Int) + y * M.sine (k : Int) := IntWalk.i64_in _ (by omega)
        obtain ⟨⟨⟨f1, f2⟩, ⟨f3, f4⟩⟩, _⟩ := turn_bd (x := x) (y := y) (m : Int) (by omega) (by omega) (by omega) (by omega)
        have f5 : IntKind.i64.wrap (x * M.cosine (m : Int)) = x * M.cosine (m : Int) := IntWalk.i64_in _ (by omega)
        have f6 : IntKind.i64.wrap (y * M.sine (m : Int)) = y * M.sine (m : Int) := IntWalk.i64_in _ (by omega)
        have f7 : IntKind.i64.wrap (x * M.cosine (m : Int) + y * M.sine (m : Int)) = x * M.cosine (m : Int) + y * M.sine (m : Int) := IntWalk.i64_in _ (by omega)
        have hpk : M.pj x y k = x * M.cosine k + y * M.sine k := rfl
        have hpm : M.pj x y m = x * M.cosine m + y * M.sine m := rfl
        have z1 : x * M.cosine k = 0 ∨ x ≠ 0 := by rcases Decidable.em (x = 0) with h | h; exact .inl (by rw [h, Int.zero_mul]); exact .inr h
        have z2 : x * M.cosine m = 0 ∨ x ≠ 0 := by rcases Decidable.em (x = 0) with h | h; exact .inl (by rw [h, Int.zero_mul]); exact .inr h
        have s := And.intro d1 d2
        go_wp2_with fail
        go_region_held3 (fun w' => w'.cell? ⟨w.heap.size, 0, none⟩ = some (.int .i64 x) ∧ w'.cell? ⟨w.heap.size, 1, none⟩ = some (.int .i64 y)) (first | (with_reducible assumption) | go_keep) (first | (go_at_call 13; refine (spec_cosine _ _).mono ?_; rintro e wn ⟨rfl, b⟩; have hb := Lib.hid b; have s := keep2 b (by with_reducible assumption); clear b) | (go_at_call 11; refine (spec_sine _ _).mono ?_; rintro e wn ⟨rfl, b⟩; have hb := Lib.hid b; have s := keep2 b (by with_reducible assumption); clear b))
        all_goals go_wp2_with fail
        all_goals
          go_roundw
          case rel => exact ⟨k + 1, by omega, by omega, (by rw [Nat.add_sub_cancel]; first | rw [← hup.out (by omega)] | rw [← hst.out (by omega)]), by go_num, ⟨s.1, s.2, World.block_lt_of_cell? _ _ s.1⟩, by repeat (first | exact hq.out | refine Below.drew ?_ | refine bel_trans ?_ (by with_reducible assumption))⟩
          case measure => simp [intOf]; omega
      · obtain rfl : k = 360 := (by omega)
        go_wp2_with fail
        go_ret
        exact ⟨ret_int hfin.out.symm, hq.out⟩
theorem flip {P : Program} {f : FuncId} {args : Array Value} {w : World} {v : Value} (h : Calls P f args w fun e w' => e = .returned v ∧ w = w') : Calls P f args w fun e w' => e = .returned v ∧ w' = w := h.mono fun _ _ ⟨a, b⟩ => ⟨a, b.symm⟩
theorem tdn {w : World} (n : Nat) (h : Tables w) : Tables (w.drewN n) := h
theorem bdn {B : Nat} {a w : World} (n : Nat) (h : Below B a w) : Below B a (w.drewN n) := ⟨h.os, h.tape, h.output, h.size, h.block⟩
theorem pj_zero (x y : Int) : x * 4096 = M.pj x y ((0 : Nat) : Int) := by
  have e1 : M.cosine ((0 : Nat) : Int) = 4096 := by decide +kernel
  have e2 : M.sine ((0 : Nat) : Int) = 0 := by decide +kernel
  unfold M.pj; rw [e1, e2]; omega
theorem vint {a b : Int} (h : a = b) : Value.int .i64 a = .int .i64 b := by rw [h]
set_option maxRecDepth 20000 in
set_option maxHeartbeats 4000000 in
theorem impl_dir (x y : Int) (w : World) (hT : Tables w) :
    Calls Tryd.prog 28 #[.agg #[.int .i64 x, .int .i64 y]] w fun e w' => e = .returned (.int .i64 (M.dir x y)) ∧ Below w.heap.size w w' := by
  replace hT := Lib.hid hT
  go_enter Tryd.func28, Tryd.ntmps28
  go_wp2_with fail
  refine (impl_pv _ _ _).mono ?_
  rintro e w1 ⟨rfl, b1⟩
  have B1 := (Box.new w x y 29).below b1 (by simp)
  have q1 := Lib.hid (((Below.refl w.heap.size w).alloc (Nat.le_refl _) (.cells #[.int .i64 x, .int .i64 y] 29)).trans (b1.mono (by simp)))
  clear b1
  replace hT := Lib.hid (hT.out.later q1.out)
  obtain ⟨c1, c2, c3⟩ := B1
  cases hv : M.pvB x y
  · have hfin := Lib.hid (M.dir_no hv)
    go_wp2_with fail
    go_ret
    exact ⟨ret_int hfin.out.symm, q1.out⟩
  by_cases h0 : x = 0 ∧ y = 0
  · obtain ⟨rfl, rfl⟩ := h0
    go_wp2_with fail
    go_ret
    exact ⟨ret_int M.dir_zero.symm, q1.out⟩
  have hfin := Lib.hid (M.dir_yes hv h0)
  obtain ⟨v1, v2, v3, v4⟩ := M.pvB_true.1 hv
  have hne : ¬ (x = 0 ∧ y = 0) := h0
  have hs0 := Lib.hid (vint (pj_zero x y))
  go_wp2_with fail
  all_goals (try (rename_i hx0 hy0 K1 a1; have hx1 : x = 0 := hx0; clear hx1 hx0))
  all_goals
    go_quiet (fail)
    go_wp2_with fail
    go_loopw [3, 4, 18] (fun b q i wr => ∃ k : Nat, k ≤ 360 ∧ b = .int .i64 (M.arg x y (k - 1) : Nat) ∧ q = .int .i64 (M.pj x y (M.arg x y (k - 1) : Nat)) ∧ i = .int .i64 k ∧ Tables wr ∧ Box wr w.heap.size x y ∧ Below w.heap.size w wr) (fun _ _ i _ => 360 - (intOf i).toNat)
    case atStart => exact ⟨0, by omega, rfl, hs0.out, rfl, hT.out, ⟨c1, c2, c3⟩, by repeat (first | exact q1.out | exact bdn _ q1.out | refine Below.drew ?_)⟩
    case round =>
        obtain ⟨k, hk2, rfl, rfl, rfl, hT, ⟨d1, d2, d3⟩, hq⟩ := hrel
        replace hq := Lib.hid hq
        replace hT := Lib.hid hT
        clear c1 c2 c3 q1 hv
        by_cases hlt : k < 360
        · have hle := arg_le x y (k - 1)
          have hup := Lib.hid (fun (h : M.pj x y (M.arg x y (k - 1) : Nat) < x * M.cosine k + y * M.sine k) => arg_up0 (x := x) (y := y) (k := k) rfl h)
          have hst := Lib.hid (fun (h : ¬ M.pj x y (M.arg x y (k - 1) : Nat) < x * M.cosine k + y * M.sine k) => arg_stay0 (x := x) (y := y) (k := k) rfl h)
          generalize M.arg x y (k - 1) = m at *
          obtain ⟨⟨⟨g1, g2⟩, ⟨g3, g4⟩⟩, _⟩ := turn_bd (x := x) (y := y) (k : Int) (by omega) (by omega) (by omega) (by omega)
          have g5 : IntKind.i64.wrap (x * M.cosine (k : Int)) = x * M.cosine (k : Int) := IntWalk.i64_in _ (by omega)
          have g6 : IntKind.i64.wrap (y * M.sine (k : Int)) = y * M.sine (k : Int) := IntWalk.i64_in _ (by omega)
          have g7 : IntKind.i64.wrap (x * M.cosine (k : Int) + y * M.sine (k : Int)) = x * M.cosine (k : Int) + y * M.sine (k : Int) := IntWalk.i64_in _ (by omega)
          have z1 : x * M.cosine k = 0 ∨ x ≠ 0 := by rcases Decidable.em (x = 0) with h | h; exact .inl (by rw [h, Int.zero_mul]); exact .inr h
          go_wp2_with fail
          go_quiet (first | (go_at_call 14; refine Calls.quiet_of_same (flip (impl_cosine _ _ (tdn _ hT.out)))) | (go_at_call 12; refine Calls.quiet_of_same (flip (impl_sine _ _ (tdn _ hT.out)))))
          go_wp2_with fail
          all_goals
            go_roundw
            case rel => exact ⟨k + 1, by omega, (by rw [Nat.add_sub_cancel]; first | rw [← hup.out (by omega)] | rw [← hst.out (by omega)]), (by rw [Nat.add_sub_cancel]; first | (rw [← hup.out (by omega)]; rfl) | rw [← hst.out (by omega)]), by go_num, by exact hT.out, ⟨d1, d2, d3⟩, by first | exact hq.out | exact bdn _ hq.out⟩
            case measure => simp [intOf]; omega
        · obtain rfl : k = 360 := (by omega)
          go_wp2_with fail
          go_ret
          exact ⟨ret_int hfin.out.symm, hq.out⟩
end Go.Proofs.YtlngkgpbmadmcaaDoor
