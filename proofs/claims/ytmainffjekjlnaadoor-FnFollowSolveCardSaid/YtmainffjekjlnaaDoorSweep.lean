/- Contracts of spec.l4Sum and spec.l4Sweep; the score of an arm of two links. -/
import Derived.Test.YtmainffjekjlnaaDoorSolve
namespace Go.Proofs.YtmainffjekjlnaaDoor
open Go.ChangeShapes Go.WideShapes Go.ChangeAt Go.RowKit
set_option linter.unusedVariables false
theorem spec_sum (x y : Int) (w : World) (hx : -1000 ≤ x ∧ x ≤ 1000) (hy : -1000 ≤ y ∧ y ≤ 1000) :
    Calls Tryd.prog 45 #[.int .i64 x, .int .i64 y] w fun e w' => e = .returned (.int .i64 (M.absS x y)) ∧ w = w' := by
  have wx : IntKind.i64.wrap (-x) = -x := IntWalk.i64_in _ (by omega)
  have wy : IntKind.i64.wrap (-y) = -y := IntWalk.i64_in _ (by omega)
  have w1 : IntKind.i64.wrap (x + y) = x + y := IntWalk.i64_in _ (by omega)
  have w2 : IntKind.i64.wrap (-x + y) = -x + y := IntWalk.i64_in _ (by omega)
  have w3 : IntKind.i64.wrap (x + -y) = x + -y := IntWalk.i64_in _ (by omega)
  have w4 : IntKind.i64.wrap (-x + -y) = -x + -y := IntWalk.i64_in _ (by omega)
  by_cases hpx : x < -x
  · by_cases hpy : y < -y
    · have hfin := Lib.hid (show -x + -y = M.absS x y from by unfold M.absS; omega)
      go_enter Tryd.func45, Tryd.ntmps45
      go_wp2_with fail
      go_ret
      exact ⟨ret_int hfin.out, rfl⟩
    · have hfin := Lib.hid (show -x + y = M.absS x y from by unfold M.absS; omega)
      go_enter Tryd.func45, Tryd.ntmps45
      go_wp2_with fail
      go_ret
      exact ⟨ret_int hfin.out, rfl⟩
  · by_cases hpy : y < -y
    · have hfin := Lib.hid (show x + -y = M.absS x y from by unfold M.absS; omega)
      go_enter Tryd.func45, Tryd.ntmps45
      go_wp2_with fail
      go_ret
      exact ⟨ret_int hfin.out, rfl⟩
    · have hfin := Lib.hid (show x + y = M.absS x y from by unfold M.absS; omega)
      go_enter Tryd.func45, Tryd.ntmps45
      go_wp2_with fail
      go_ret
      exact ⟨ret_int hfin.out, rfl⟩
theorem M.score_two (l : List Int) (x y X Y : Int) : M.sq (M.tx (l.getD 0 0) 0 x + M.tx (l.getD 1 0) 0 (x + y)) (M.ty (l.getD 0 0) 0 x + M.ty (l.getD 1 0) 0 (x + y)) X Y = M.score l [x, y] X Y := by
  unfold M.score
  show _ = M.sq (0 + M.tx (l.getD 0 0) 0 (0 + x) + M.tx (l.getD 1 0) 0 (0 + x + y)) (0 + M.ty (l.getD 0 0) 0 (0 + x) + M.ty (l.getD 1 0) 0 (0 + x + y)) X Y
  rw [Int.zero_add, Int.zero_add, Int.zero_add]
def M.sweepB (l lo hi : List Int) : Bool := decide (M.armB l lo hi = true ∧ l.length = 2 ∧ (hi.getD 0 0 - lo.getD 0 0 + 1) * (hi.getD 1 0 - lo.getD 1 0 + 1) ≤ 40000)
theorem M.sweepB_true {l lo hi : List Int} : M.sweepB l lo hi = true ↔ M.armB l lo hi = true ∧ l.length = 2 ∧ (hi.getD 0 0 - lo.getD 0 0 + 1) * (hi.getD 1 0 - lo.getD 1 0 + 1) ≤ 40000 := by unfold M.sweepB; exact decide_eq_true_iff
theorem M.sweep_no {l lo hi : List Int} (h : ¬ (M.armB l lo hi = true ∧ l.length = 2 ∧ (hi.getD 0 0 - lo.getD 0 0 + 1) * (hi.getD 1 0 - lo.getD 1 0 + 1) ≤ 40000)) : false = M.sweepB l lo hi := by unfold M.sweepB; rw [decide_eq_false h]
theorem M.sweep_yes {l lo hi : List Int} (h : M.armB l lo hi = true ∧ l.length = 2 ∧ (hi.getD 0 0 - lo.getD 0 0 + 1) * (hi.getD 1 0 - lo.getD 1 0 + 1) ≤ 40000) : true = M.sweepB l lo hi := by unfold M.sweepB; rw [decide_eq_true h]
set_option maxRecDepth 20000 in
set_option maxHeartbeats 8000000 in
theorem spec_sweep (a1 a2 a3 : Option Addr) (n1 c1 n2 c2 n3 c3 : Nat) (l lo hi : List Int) (w : World) (h1 : l.length = n1) (h2 : lo.length = n2) (h3 : hi.length = n3) (hm : n1 ≤ 1000000000 ∧ n2 ≤ 1000000000 ∧ n3 ≤ 1000000000) (hr : ArmAt w w.heap.size a1 a2 a3 l lo hi) :
    Calls Tryd.prog 41 #[.agg #[.slice a1 n1 c1, .slice a2 n2 c2, .slice a3 n3 c3]] w fun e w' => e = .returned (.bool (M.sweepB l lo hi)) ∧ Below w.heap.size w w' := by
  replace h1 := Lib.hid h1
  replace h2 := Lib.hid h2
  replace h3 := Lib.hid h3
  replace hm := Lib.hid hm
  have bb := bel_new w (.cells #[.slice a1 n1 c1, .slice a2 n2 c2, .slice a3 n3 c3] 25)
  have k0 := Cell3.new w (.slice a1 n1 c1) (.slice a2 n2 c2) (.slice a3 n3 c3) 25
  replace hr := Lib.hid (hr.after bb)
  replace bb := Lib.hid bb
  go_enter Tryd.func41, Tryd.ntmps41
  go_upto_region 1 with fail
  generalize w.alloc (.cells #[.slice a1 n1 c1, .slice a2 n2 c2, .slice a3 n3 c3] 25) = v at *
  replace bb := Lib.hid (bel_after bb.out (bel_drew _))
  replace k0 := k0.after (bel_drew _)
  replace hr := Lib.hid (hr.out.after (bel_drew _))
  cases hA : M.armB l lo hi
  · have hfin := Lib.hid (M.sweep_no (l := l) (lo := lo) (hi := hi) (fun h => by have h9 := h.1; rw [hA] at h9; cases h9))
    replace hA := Lib.hid hA
    have s := (And.intro k0.c0 (And.intro k0.c1 k0.c2))
    refine wp_region_held_drew (S := (fun w' => (w'.cell? ⟨w.heap.size, 0, none⟩ = some (.slice a1 n1 c1) ∧ w'.cell? ⟨w.heap.size, 1, none⟩ = some (.slice a2 n2 c2) ∧ w'.cell? ⟨w.heap.size, 2, none⟩ = some (.slice a3 n3 c3)))) (by kernel_rfl) s (fun hHeld => ?_)
    refine wpAnyH_take (i := 0) (v := ?vq1x0) nth0 (by kernel_rfl) (by kernel_rfl) (by kernel_rfl) (fun _ _ _ h => h) (Or.inl ⟨by rfl, ?hyq1x0⟩) hHeld ?_
    case hyq1x0 => (intro wH hSw; (try dsimp only at hSw); go_simp; (try with_reducible rfl))
    simp only [Act.put, List.setIfInBounds_toArray, List.set_cons_zero, List.set_cons_succ]
    refine wpAnyH_ready (rs := [1]) (by kernel_rfl) (by simp) ?_
    refine AllReadyH.cons nth1 (fun K hK => ?_) ?_
    · go_simp
      go_at_call 60
      refine (spec_arm a1 a2 a3 n1 c1 n2 c2 n3 c3 l lo hi _ h1.out h2.out h3.out hm.out hr.out).mono ?_
      rintro e wa ⟨rfl, q⟩
      rw [hA.out]
      replace bb := Lib.hid (bel_after bb.out q)
      replace k0 := k0.after q
      replace hr := Lib.hid (hr.out.after q)
      clear q s
      clear hHeld
      have s := (And.intro k0.c0 (And.intro k0.c1 k0.c2))
      refine hK.out _ _ s (fun hHeld => ?_)
      clear hK K
      try simp only [Act.put, List.setIfInBounds_toArray, List.set_cons_zero, List.set_cons_succ]
      refine wpAnyH_take (i := 2) (v := ?vq1x2) nth2 (by kernel_rfl) (by kernel_rfl) (by kernel_rfl) (fun _ _ _ h => h) (Or.inl ⟨by rfl, ?hyq1x2⟩) hHeld ?_
      case hyq1x2 => (intro wH hSw; (try dsimp only at hSw); go_simp; (try with_reducible rfl))
      simp only [Act.put, List.setIfInBounds_toArray, List.set_cons_zero, List.set_cons_succ]
      refine wpAnyH_take (i := 3) (v := undef) nth3 (by kernel_rfl) (by kernel_rfl) (by kernel_rfl) (fun _ _ _ h => h) (Or.inr ⟨by rfl, rfl⟩) hHeld ?_
      simp only [Act.put, List.setIfInBounds_toArray, List.set_cons_zero, List.set_cons_succ]
      refine wpAnyH_take (i := 4) (v := undef) nth4 (by kernel_rfl) (by kernel_rfl) (by kernel_rfl) (fun _ _ _ h => h) (Or.inr ⟨by rfl, rfl⟩) hHeld ?_
      simp only [Act.put, List.setIfInBounds_toArray, List.set_cons_zero, List.set_cons_succ]
      refine wpAnyH_take (i := 5) (v := undef) nth5 (by kernel_rfl) (by kernel_rfl) (by kernel_rfl) (fun _ _ _ h => h) (Or.inr ⟨by rfl, rfl⟩) hHeld ?_
      simp only [Act.put, List.setIfInBounds_toArray, List.set_cons_zero, List.set_cons_succ]
      refine wpAnyH_take (i := 6) (v := undef) nth6 (by kernel_rfl) (by kernel_rfl) (by kernel_rfl) (fun _ _ _ h => h) (Or.inr ⟨by rfl, rfl⟩) hHeld ?_
      simp only [Act.put, List.setIfInBounds_toArray, List.set_cons_zero, List.set_cons_succ]
      refine wpAnyH_take (i := 7) (v := ?vq1x7) nth7 (by kernel_rfl) (by kernel_rfl) (by kernel_rfl) (fun _ _ _ h => h) (Or.inl ⟨by rfl, ?hyq1x7⟩) hHeld ?_
      case hyq1x7 => (intro wH hSw; (try dsimp only at hSw); go_simp; (try with_reducible rfl))
      simp only [Act.put, List.setIfInBounds_toArray, List.set_cons_zero, List.set_cons_succ]
      refine wpAnyH_take (i := 8) (v := ?vq1x8) nth8 (by kernel_rfl) (by kernel_rfl) (by kernel_rfl) (fun _ _ _ h => h) (Or.inl ⟨by rfl, ?hyq1x8⟩) hHeld ?_
      case hyq1x8 => (intro wH hSw; (try dsimp only at hSw); go_simp; (try with_reducible rfl))
      simp only [Act.put, List.setIfInBounds_toArray, List.set_cons_zero, List.set_cons_succ]
      refine wpAnyH_take (i := 9) (v := undef) nth9 (by kernel_rfl) (by kernel_rfl) (by kernel_rfl) (fun _ _ _ h => h) (Or.inr ⟨by rfl, rfl⟩) hHeld ?_
      simp only [Act.put, List.setIfInBounds_toArray, List.set_cons_zero, List.set_cons_succ]
      refine wpAnyH_take (i := 10) (v := undef) nth10 (by kernel_rfl) (by kernel_rfl) (by kernel_rfl) (fun _ _ _ h => h) (Or.inr ⟨by rfl, rfl⟩) hHeld ?_
      simp only [Act.put, List.setIfInBounds_toArray, List.set_cons_zero, List.set_cons_succ]
      refine wpAnyH_take (i := 11) (v := undef) nth11 (by kernel_rfl) (by kernel_rfl) (by kernel_rfl) (fun _ _ _ h => h) (Or.inr ⟨by rfl, rfl⟩) hHeld ?_
      simp only [Act.put, List.setIfInBounds_toArray, List.set_cons_zero, List.set_cons_succ]
      refine wpAnyH_take (i := 12) (v := undef) nth12 (by kernel_rfl) (by kernel_rfl) (by kernel_rfl) (fun _ _ _ h => h) (Or.inr ⟨by rfl, rfl⟩) hHeld ?_
      simp only [Act.put, List.setIfInBounds_toArray, List.set_cons_zero, List.set_cons_succ]
      refine wpAnyH_take (i := 13) (v := undef) nth13 (by kernel_rfl) (by kernel_rfl) (by kernel_rfl) (fun _ _ _ h => h) (Or.inr ⟨by rfl, rfl⟩) hHeld ?_
      simp only [Act.put, List.setIfInBounds_toArray, List.set_cons_zero, List.set_cons_succ]
      refine wpAnyH_take (i := 14) (v := undef) nth14 (by kernel_rfl) (by kernel_rfl) (by kernel_rfl) (fun _ _ _ h => h) (Or.inr ⟨by rfl, rfl⟩) hHeld ?_
      simp only [Act.put, List.setIfInBounds_toArray, List.set_cons_zero, List.set_cons_succ]
      refine wpAnyH_take (i := 15) (v := undef) nth15 (by kernel_rfl) (by kernel_rfl) (by kernel_rfl) (fun _ _ _ h => h) (Or.inr ⟨by rfl, rfl⟩) hHeld ?_
      simp only [Act.put, List.setIfInBounds_toArray, List.set_cons_zero, List.set_cons_succ]
      refine wpAnyH_take (i := 16) (v := undef) nth16 (by kernel_rfl) (by kernel_rfl) (by kernel_rfl) (fun _ _ _ h => h) (Or.inr ⟨by rfl, rfl⟩) hHeld ?_
      simp only [Act.put, List.setIfInBounds_toArray, List.set_cons_zero, List.set_cons_succ]
      refine wpAnyH_take (i := 17) (v := undef) nth17 (by kernel_rfl) (by kernel_rfl) (by kernel_rfl) (fun _ _ _ h => h) (Or.inr ⟨by rfl, rfl⟩) hHeld ?_
      simp only [Act.put, List.setIfInBounds_toArray, List.set_cons_zero, List.set_cons_succ]
      refine wpAnyH_take (i := 18) (v := undef) nth18 (by kernel_rfl) (by kernel_rfl) (by kernel_rfl) (fun _ _ _ h => h) (Or.inr ⟨by rfl, rfl⟩) hHeld ?_
      simp only [Act.put, List.setIfInBounds_toArray, List.set_cons_zero, List.set_cons_succ]
      refine wpAnyH_take (i := 19) (v := undef) nth19 (by kernel_rfl) (by kernel_rfl) (by kernel_rfl) (fun _ _ _ h => h) (Or.inr ⟨by rfl, rfl⟩) hHeld ?_
      simp only [Act.put, List.setIfInBounds_toArray, List.set_cons_zero, List.set_cons_succ]
      refine wpAnyH_take (i := 20) (v := undef) nth20 (by kernel_rfl) (by kernel_rfl) (by kernel_rfl) (fun _ _ _ h => h) (Or.inr ⟨by rfl, rfl⟩) hHeld ?_
      simp only [Act.put, List.setIfInBounds_toArray, List.set_cons_zero, List.set_cons_succ]
      refine wpAnyH_take (i := 21) (v := undef) nth21 (by kernel_rfl) (by kernel_rfl) (by kernel_rfl) (fun _ _ _ h => h) (Or.inr ⟨by rfl, rfl⟩) hHeld ?_
      simp only [Act.put, List.setIfInBounds_toArray, List.set_cons_zero, List.set_cons_succ]
      refine wpAnyH_take (i := 22) (v := undef) nth22 (by kernel_rfl) (by kernel_rfl) (by kernel_rfl) (fun _ _ _ h => h) (Or.inr ⟨by rfl, rfl⟩) hHeld ?_
      simp only [Act.put, List.setIfInBounds_toArray, List.set_cons_zero, List.set_cons_succ]
      refine wpAnyH_take (i := 23) (v := undef) nth23 (by kernel_rfl) (by kernel_rfl) (by kernel_rfl) (fun _ _ _ h => h) (Or.inr ⟨by rfl, rfl⟩) hHeld ?_
      simp only [Act.put, List.setIfInBounds_toArray, List.set_cons_zero, List.set_cons_succ]
      refine wpAnyH_take (i := 24) (v := undef) nth24 (by kernel_rfl) (by kernel_rfl) (by kernel_rfl) (fun _ _ _ h => h) (Or.inr ⟨by rfl, rfl⟩) hHeld ?_
      simp only [Act.put, List.setIfInBounds_toArray, List.set_cons_zero, List.set_cons_succ]
      refine wpAnyH_take (i := 25) (v := undef) nth25 (by kernel_rfl) (by kernel_rfl) (by kernel_rfl) (fun _ _ _ h => h) (Or.inr ⟨by rfl, rfl⟩) hHeld ?_
      simp only [Act.put, List.setIfInBounds_toArray, List.set_cons_zero, List.set_cons_succ]
      refine wpAnyH_take (i := 26) (v := undef) nth26 (by kernel_rfl) (by kernel_rfl) (by kernel_rfl) (fun _ _ _ h => h) (Or.inr ⟨by rfl, rfl⟩) hHeld ?_
      simp only [Act.put, List.setIfInBounds_toArray, List.set_cons_zero, List.set_cons_succ]
      refine wpAnyH_take (i := 27) (v := undef) nth27 (by kernel_rfl) (by kernel_rfl) (by kernel_rfl) (fun _ _ _ h => h) (Or.inr ⟨by rfl, rfl⟩) hHeld ?_
      simp only [Act.put, List.setIfInBounds_toArray, List.set_cons_zero, List.set_cons_succ]
      refine wpAnyH_take (i := 28) (v := undef) nth28 (by kernel_rfl) (by kernel_rfl) (by kernel_rfl) (fun _ _ _ h => h) (Or.inr ⟨by rfl, rfl⟩) hHeld ?_
      simp only [Act.put, List.setIfInBounds_toArray, List.set_cons_zero, List.set_cons_succ]
      refine wpAnyH_take (i := 29) (v := undef) nth29 (by kernel_rfl) (by kernel_rfl) (by kernel_rfl) (fun _ _ _ h => h) (Or.inr ⟨by rfl, rfl⟩) hHeld ?_
      simp only [Act.put, List.setIfInBounds_toArray, List.set_cons_zero, List.set_cons_succ]
      refine wpAnyH_take (i := 30) (v := undef) nth30 (by kernel_rfl) (by kernel_rfl) (by kernel_rfl) (fun _ _ _ h => h) (Or.inr ⟨by rfl, rfl⟩) hHeld ?_
      simp only [Act.put, List.setIfInBounds_toArray, List.set_cons_zero, List.set_cons_succ]
      refine wpAnyH_take (i := 31) (v := ?vq1x31) nth31 (by kernel_rfl) (by kernel_rfl) (by kernel_rfl) (fun _ _ _ h => h) (Or.inl ⟨by rfl, ?hyq1x31⟩) hHeld ?_
      case hyq1x31 => (intro wH hSw; (try dsimp only at hSw); go_simp; (try with_reducible rfl))
      simp only [Act.put, List.setIfInBounds_toArray, List.set_cons_zero, List.set_cons_succ]
      refine wpAnyH_take (i := 32) (v := ?vq1x32) nth32 (by kernel_rfl) (by kernel_rfl) (by kernel_rfl) (fun _ _ _ h => h) (Or.inl ⟨by rfl, ?hyq1x32⟩) hHeld ?_
      case hyq1x32 => (intro wH hSw; (try dsimp only at hSw); go_simp; (try with_reducible rfl))
      simp only [Act.put, List.setIfInBounds_toArray, List.set_cons_zero, List.set_cons_succ]
      refine wpAnyH_done (by kernel_rfl) ?_ _
      clear s hHeld
      go_wp2_with fail
      go_ret
      exact ⟨ret_bool hfin.out, bb.out⟩
    exact AllReadyH.nil
  by_cases hn2 : ¬ n1 = 2
  · have hfin := Lib.hid (M.sweep_no (l := l) (lo := lo) (hi := hi) (fun h => hn2 (by rw [← h1.out]; exact h.2.1)))
    have hne : ((n1 : Int) == 2) = false := by simp; omega
    replace hA := Lib.hid hA
    have s := (And.intro k0.c0 (And.intro k0.c1 k0.c2))
    refine wp_region_held_drew (S := (fun w' => (w'.cell? ⟨w.heap.size, 0, none⟩ = some (.slice a1 n1 c1) ∧ w'.cell? ⟨w.heap.size, 1, none⟩ = some (.slice a2 n2 c2) ∧ w'.cell? ⟨w.heap.size, 2, none⟩ = some (.slice a3 n3 c3)))) (by kernel_rfl) s (fun hHeld => ?_)
    refine wpAnyH_take (i := 0) (v := ?vq2x0) nth0 (by kernel_rfl) (by kernel_rfl) (by kernel_rfl) (fun _ _ _ h => h) (Or.inl ⟨by rfl, ?hyq2x0⟩) hHeld ?_
    case hyq2x0 => (intro wH hSw; (try dsimp only at hSw); go_simp; (try with_reducible rfl))
    simp only [Act.put, List.setIfInBounds_toArray, List.set_cons_zero, List.set_cons_succ]
    refine wpAnyH_ready (rs := [1]) (by kernel_rfl) (by simp) ?_
    refine AllReadyH.cons nth1 (fun K hK => ?_) ?_
    · go_simp
      go_at_call 60
      refine (spec_arm a1 a2 a3 n1 c1 n2 c2 n3 c3 l lo hi _ h1.out h2.out h3.out hm.out hr.out).mono ?_
      rintro e wa ⟨rfl, q⟩
      rw [hA.out]
      replace bb := Lib.hid (bel_after bb.out q)
      replace k0 := k0.after q
      replace hr := Lib.hid (hr.out.after q)
      clear q s
      clear hHeld
      have s := (And.intro k0.c0 (And.intro k0.c1 k0.c2))
      refine hK.out _ _ s (fun hHeld => ?_)
      clear hK K
      try simp only [Act.put, List.setIfInBounds_toArray, List.set_cons_zero, List.set_cons_succ]
      refine wpAnyH_take (i := 2) (v := ?vq2x2) nth2 (by kernel_rfl) (by kernel_rfl) (by kernel_rfl) (fun _ _ _ h => h) (Or.inl ⟨by rfl, ?hyq2x2⟩) hHeld ?_
      case hyq2x2 => (intro wH hSw; (try dsimp only at hSw); go_simp; (try with_reducible rfl))
      simp only [Act.put, List.setIfInBounds_toArray, List.set_cons_zero, List.set_cons_succ]
      refine wpAnyH_take (i := 3) (v := ?vq2x3) nth3 (by kernel_rfl) (by kernel_rfl) (by kernel_rfl) (fun _ _ _ h => h) (Or.inl ⟨by rfl, ?hyq2x3⟩) hHeld ?_
      case hyq2x3 => (intro wH hSw; (try dsimp only at hSw); go_simp; (try with_reducible rfl))
      simp only [Act.put, List.setIfInBounds_toArray, List.set_cons_zero, List.set_cons_succ]
      refine wpAnyH_take (i := 4) (v := ?vq2x4) nth4 (by kernel_rfl) (by kernel_rfl) (by kernel_rfl) (fun _ _ _ h => h) (Or.inl ⟨by rfl, ?hyq2x4⟩) hHeld ?_
      case hyq2x4 => (intro wH hSw; (try dsimp only at hSw); go_simp; (try with_reducible rfl))
      simp only [Act.put, List.setIfInBounds_toArray, List.set_cons_zero, List.set_cons_succ]
      refine wpAnyH_take (i := 5) (v := ?vq2x5) nth5 (by kernel_rfl) (by kernel_rfl) (by kernel_rfl) (fun _ _ _ h => h) (Or.inl ⟨by rfl, ?hyq2x5⟩) hHeld ?_
      case hyq2x5 => (intro wH hSw; (try dsimp only at hSw); go_simp; (try with_reducible rfl))
      simp only [Act.put, List.setIfInBounds_toArray, List.set_cons_zero, List.set_cons_succ]
      refine wpAnyH_take (i := 6) (v := ?vq2x6) nth6 (by kernel_rfl) (by kernel_rfl) (by kernel_rfl) (fun _ _ _ h => h) (Or.inl ⟨by rfl, ?hyq2x6⟩) hHeld ?_
      case hyq2x6 => (intro wH hSw; (try dsimp only at hSw); go_simp; (try with_reducible rfl))
      simp only [Act.put, List.setIfInBounds_toArray, List.set_cons_zero, List.set_cons_succ]
      refine wpAnyH_take (i := 7) (v := ?vq2x7) nth7 (by kernel_rfl) (by kernel_rfl) (by kernel_rfl) (fun _ _ _ h => h) (Or.inl ⟨by rfl, ?hyq2x7⟩) hHeld ?_
      case hyq2x7 => (intro wH hSw; (try dsimp only at hSw); go_simp; (try with_reducible rfl))
      simp only [Act.put, List.setIfInBounds_toArray, List.set_cons_zero, List.set_cons_succ]
      refine wpAnyH_take (i := 8) (v := ?vq2x8) nth8 (by kernel_rfl) (by kernel_rfl) (by kernel_rfl) (fun _ _ _ h => h) (Or.inl ⟨by rfl, ?hyq2x8⟩) hHeld ?_
      case hyq2x8 => (intro wH hSw; (try dsimp only at hSw); go_simp; (try with_reducible rfl))
      simp only [Act.put, List.setIfInBounds_toArray, List.set_cons_zero, List.set_cons_succ]
      refine wpAnyH_take (i := 9) (v := undef) nth9 (by kernel_rfl) (by kernel_rfl) (by kernel_rfl) (fun _ _ _ h => h) (Or.inr ⟨by rfl, rfl⟩) hHeld ?_
      simp only [Act.put, List.setIfInBounds_toArray, List.set_cons_zero, List.set_cons_succ]
      refine wpAnyH_take (i := 10) (v := undef) nth10 (by kernel_rfl) (by kernel_rfl) (by kernel_rfl) (fun _ _ _ h => h) (Or.inr ⟨by rfl, rfl⟩) hHeld ?_
      simp only [Act.put, List.setIfInBounds_toArray, List.set_cons_zero, List.set_cons_succ]
      refine wpAnyH_take (i := 11) (v := undef) nth11 (by kernel_rfl) (by kernel_rfl) (by kernel_rfl) (fun _ _ _ h => h) (Or.inr ⟨by rfl, rfl⟩) hHeld ?_
      simp only [Act.put, List.setIfInBounds_toArray, List.set_cons_zero, List.set_cons_succ]
      refine wpAnyH_take (i := 12) (v := undef) nth12 (by kernel_rfl) (by kernel_rfl) (by kernel_rfl) (fun _ _ _ h => h) (Or.inr ⟨by rfl, rfl⟩) hHeld ?_
      simp only [Act.put, List.setIfInBounds_toArray, List.set_cons_zero, List.set_cons_succ]
      refine wpAnyH_take (i := 13) (v := undef) nth13 (by kernel_rfl) (by kernel_rfl) (by kernel_rfl) (fun _ _ _ h => h) (Or.inr ⟨by rfl, rfl⟩) hHeld ?_
      simp only [Act.put, List.setIfInBounds_toArray, List.set_cons_zero, List.set_cons_succ]
      refine wpAnyH_take (i := 14) (v := undef) nth14 (by kernel_rfl) (by kernel_rfl) (by kernel_rfl) (fun _ _ _ h => h) (Or.inr ⟨by rfl, rfl⟩) hHeld ?_
      simp only [Act.put, List.setIfInBounds_toArray, List.set_cons_zero, List.set_cons_succ]
      refine wpAnyH_take (i := 15) (v := undef) nth15 (by kernel_rfl) (by kernel_rfl) (by kernel_rfl) (fun _ _ _ h => h) (Or.inr ⟨by rfl, rfl⟩) hHeld ?_
      simp only [Act.put, List.setIfInBounds_toArray, List.set_cons_zero, List.set_cons_succ]
      refine wpAnyH_take (i := 16) (v := undef) nth16 (by kernel_rfl) (by kernel_rfl) (by kernel_rfl) (fun _ _ _ h => h) (Or.inr ⟨by rfl, rfl⟩) hHeld ?_
      simp only [Act.put, List.setIfInBounds_toArray, List.set_cons_zero, List.set_cons_succ]
      refine wpAnyH_take (i := 17) (v := undef) nth17 (by kernel_rfl) (by kernel_rfl) (by kernel_rfl) (fun _ _ _ h => h) (Or.inr ⟨by rfl, rfl⟩) hHeld ?_
      simp only [Act.put, List.setIfInBounds_toArray, List.set_cons_zero, List.set_cons_succ]
      refine wpAnyH_take (i := 18) (v := undef) nth18 (by kernel_rfl) (by kernel_rfl) (by kernel_rfl) (fun _ _ _ h => h) (Or.inr ⟨by rfl, rfl⟩) hHeld ?_
      simp only [Act.put, List.setIfInBounds_toArray, List.set_cons_zero, List.set_cons_succ]
      refine wpAnyH_take (i := 19) (v := undef) nth19 (by kernel_rfl) (by kernel_rfl) (by kernel_rfl) (fun _ _ _ h => h) (Or.inr ⟨by rfl, rfl⟩) hHeld ?_
      simp only [Act.put, List.setIfInBounds_toArray, List.set_cons_zero, List.set_cons_succ]
      refine wpAnyH_take (i := 20) (v := undef) nth20 (by kernel_rfl) (by kernel_rfl) (by kernel_rfl) (fun _ _ _ h => h) (Or.inr ⟨by rfl, rfl⟩) hHeld ?_
      simp only [Act.put, List.setIfInBounds_toArray, List.set_cons_zero, List.set_cons_succ]
      refine wpAnyH_take (i := 21) (v := undef) nth21 (by kernel_rfl) (by kernel_rfl) (by kernel_rfl) (fun _ _ _ h => h) (Or.inr ⟨by rfl, rfl⟩) hHeld ?_
      simp only [Act.put, List.setIfInBounds_toArray, List.set_cons_zero, List.set_cons_succ]
      refine wpAnyH_take (i := 22) (v := undef) nth22 (by kernel_rfl) (by kernel_rfl) (by kernel_rfl) (fun _ _ _ h => h) (Or.inr ⟨by rfl, rfl⟩) hHeld ?_
      simp only [Act.put, List.setIfInBounds_toArray, List.set_cons_zero, List.set_cons_succ]
      refine wpAnyH_take (i := 23) (v := undef) nth23 (by kernel_rfl) (by kernel_rfl) (by kernel_rfl) (fun _ _ _ h => h) (Or.inr ⟨by rfl, rfl⟩) hHeld ?_
      simp only [Act.put, List.setIfInBounds_toArray, List.set_cons_zero, List.set_cons_succ]
      refine wpAnyH_take (i := 24) (v := undef) nth24 (by kernel_rfl) (by kernel_rfl) (by kernel_rfl) (fun _ _ _ h => h) (Or.inr ⟨by rfl, rfl⟩) hHeld ?_
      simp only [Act.put, List.setIfInBounds_toArray, List.set_cons_zero, List.set_cons_succ]
      refine wpAnyH_take (i := 25) (v := undef) nth25 (by kernel_rfl) (by kernel_rfl) (by kernel_rfl) (fun _ _ _ h => h) (Or.inr ⟨by rfl, rfl⟩) hHeld ?_
      simp only [Act.put, List.setIfInBounds_toArray, List.set_cons_zero, List.set_cons_succ]
      refine wpAnyH_take (i := 26) (v := undef) nth26 (by kernel_rfl) (by kernel_rfl) (by kernel_rfl) (fun _ _ _ h => h) (Or.inr ⟨by rfl, rfl⟩) hHeld ?_
      simp only [Act.put, List.setIfInBounds_toArray, List.set_cons_zero, List.set_cons_succ]
      refine wpAnyH_take (i := 27) (v := undef) nth27 (by kernel_rfl) (by kernel_rfl) (by kernel_rfl) (fun _ _ _ h => h) (Or.inr ⟨by rfl, rfl⟩) hHeld ?_
      simp only [Act.put, List.setIfInBounds_toArray, List.set_cons_zero, List.set_cons_succ]
      refine wpAnyH_take (i := 28) (v := undef) nth28 (by kernel_rfl) (by kernel_rfl) (by kernel_rfl) (fun _ _ _ h => h) (Or.inr ⟨by rfl, rfl⟩) hHeld ?_
      simp only [Act.put, List.setIfInBounds_toArray, List.set_cons_zero, List.set_cons_succ]
      refine wpAnyH_take (i := 29) (v := undef) nth29 (by kernel_rfl) (by kernel_rfl) (by kernel_rfl) (fun _ _ _ h => h) (Or.inr ⟨by rfl, rfl⟩) hHeld ?_
      simp only [Act.put, List.setIfInBounds_toArray, List.set_cons_zero, List.set_cons_succ]
      refine wpAnyH_take (i := 30) (v := undef) nth30 (by kernel_rfl) (by kernel_rfl) (by kernel_rfl) (fun _ _ _ h => h) (Or.inr ⟨by rfl, rfl⟩) hHeld ?_
      simp only [Act.put, List.setIfInBounds_toArray, List.set_cons_zero, List.set_cons_succ]
      refine wpAnyH_take (i := 31) (v := ?vq2x31) nth31 (by kernel_rfl) (by kernel_rfl) (by kernel_rfl) (fun _ _ _ h => h) (Or.inl ⟨by rfl, ?hyq2x31⟩) hHeld ?_
      case hyq2x31 => (intro wH hSw; (try dsimp only at hSw); go_simp; (try with_reducible rfl))
      simp only [Act.put, List.setIfInBounds_toArray, List.set_cons_zero, List.set_cons_succ]
      refine wpAnyH_take (i := 32) (v := ?vq2x32) nth32 (by kernel_rfl) (by kernel_rfl) (by kernel_rfl) (fun _ _ _ h => h) (Or.inl ⟨by rfl, ?hyq2x32⟩) hHeld ?_
      case hyq2x32 => (intro wH hSw; (try dsimp only at hSw); go_simp; (try with_reducible rfl))
      simp only [Act.put, List.setIfInBounds_toArray, List.set_cons_zero, List.set_cons_succ]
      refine wpAnyH_done (by kernel_rfl) ?_ _
      clear s hHeld
      go_wp2_with fail
      go_ret
      exact ⟨ret_bool hfin.out, bb.out⟩
    exact AllReadyH.nil
  have hnA : n1 ≤ 2 := by omega
  have hnB : 2 ≤ n1 := by omega
  clear hn2
  have hne : ((n1 : Int) == 2) = true := by simp; omega
  obtain ⟨⟨⟨e1, e2⟩, e3, e4⟩, hv⟩ := M.armB_true hA
  rw [h1.out] at e3 e4 hv
  rw [h2.out] at e3
  rw [h3.out] at e4
  have f1 : n2 ≤ 2 := by omega
  have f2 : 2 ≤ n2 := by omega
  have f3 : n3 ≤ 2 := by omega
  have f4 : 2 ≤ n3 := by omega
  have f5 : (0 : Int) < (n2 : Int) := by omega
  have f6 : (1 : Int) < (n2 : Int) := by omega
  have f7 : (0 : Int) < (n3 : Int) := by omega
  have f8 : (1 : Int) < (n3 : Int) := by omega
  have g5 : 0 < n2 := by omega
  have g6 : 1 < n2 := by omega
  have g7 : 0 < n3 := by omega
  have g8 : 1 < n3 := by omega
  clear e3 e4
  obtain ⟨vl0, ⟨v1, v2⟩, ⟨v3, v4⟩⟩ := hv 0 (by omega)
  obtain ⟨vl1, ⟨v5, v6⟩, ⟨v7, v8⟩⟩ := hv 1 (by omega)
  clear hv e1 e2
  obtain ⟨a0_, hx0⟩ : ∃ a0_, lo.getD 0 0 = a0_ := ⟨_, rfl⟩
  obtain ⟨a1_, hx1⟩ : ∃ a1_, lo.getD 1 0 = a1_ := ⟨_, rfl⟩
  obtain ⟨e0_, hx2⟩ : ∃ e0_, hi.getD 0 0 = e0_ := ⟨_, rfl⟩
  obtain ⟨e1_, hx3⟩ : ∃ e1_, hi.getD 1 0 = e1_ := ⟨_, rfl⟩
  rw [hx0] at v1 v2 v3
  rw [hx1] at v5 v6 v7
  rw [hx2] at v3 v4
  rw [hx3] at v7 v8
  have hfits : ((e0_ - a0_ + 1) * (e1_ - a1_ + 1) ≤ 40000) ↔ (M.armB l lo hi = true ∧ l.length = 2 ∧ (hi.getD 0 0 - lo.getD 0 0 + 1) * (hi.getD 1 0 - lo.getD 1 0 + 1) ≤ 40000) := by rw [hx0, hx1, hx2, hx3]; exact ⟨fun h => ⟨hA, by rw [h1.out]; omega, h⟩, fun h => h.2.2⟩
  replace hx0 := Lib.hid hx0
  replace hx1 := Lib.hid hx1
  replace hx2 := Lib.hid hx2
  replace hx3 := Lib.hid hx3
  obtain ⟨mp1, mp2⟩ := M.mul_bd (x := e0_ - a0_ + 1) (y := e1_ - a1_ + 1) (B := 361) (C := 361) (by omega) (by omega) (by omega) (by omega) (by omega)
  have ew0 : IntKind.i64.wrap ((e0_ - a0_ + 1) * (e1_ - a1_ + 1)) = (e0_ - a0_ + 1) * (e1_ - a1_ + 1) := IntWalk.i64_in _ (by omega)
  have ew1 : IntKind.i64.wrap (e0_ - a0_) = e0_ - a0_ := IntWalk.i64_in _ (by omega)
  have ew2 : IntKind.i64.wrap (e1_ - a1_) = e1_ - a1_ := IntWalk.i64_in _ (by omega)
  have ew3 : IntKind.i64.wrap (e0_ - a0_ + 1) = e0_ - a0_ + 1 := IntWalk.i64_in _ (by omega)
  have ew4 : IntKind.i64.wrap (e1_ - a1_ + 1) = e1_ - a1_ + 1 := IntWalk.i64_in _ (by omega)
  replace hA := Lib.hid hA
  obtain ⟨b2, o2, rfl⟩ := hr.out.2.1.form (by rw [h2.out]; omega)
  obtain ⟨b3, o3, rfl⟩ := hr.out.2.2.form (by rw [h3.out]; omega)
  by_cases hq : ¬ (e0_ - a0_ + 1) * (e1_ - a1_ + 1) ≤ 40000
  · have hfin := Lib.hid (M.sweep_no (fun h => hq (hfits.2 h)))
    have hgt : decide ((e0_ - a0_ + 1) * (e1_ - a1_ + 1) ≤ (40000 : Int)) = false := by simp; omega
    clear hfits
    have s := And.intro (And.intro k0.c0 (And.intro k0.c1 k0.c2)) (And.intro (And.intro (rowv hr.out.2.1 (Below.refl _ _) (k := 0) (by rw [h2.out]; omega) hx0.out) (rowv hr.out.2.1 (Below.refl _ _) (k := 1) (by rw [h2.out]; omega) hx1.out)) (And.intro (rowv hr.out.2.2 (Below.refl _ _) (k := 0) (by rw [h3.out]; omega) hx2.out) (rowv hr.out.2.2 (Below.refl _ _) (k := 1) (by rw [h3.out]; omega) hx3.out)))
    refine wp_region_held_drew (S := (fun w' => (w'.cell? ⟨w.heap.size, 0, none⟩ = some (.slice a1 n1 c1) ∧ w'.cell? ⟨w.heap.size, 1, none⟩ = some (.slice (some ⟨b2, o2, none⟩) n2 c2) ∧ w'.cell? ⟨w.heap.size, 2, none⟩ = some (.slice (some ⟨b3, o3, none⟩) n3 c3)) ∧ ((w'.cell? ⟨b2, o2, none⟩ = some (.int .i64 a0_) ∧ w'.cell? ⟨b2, o2 + 1, none⟩ = some (.int .i64 a1_)) ∧ (w'.cell? ⟨b3, o3, none⟩ = some (.int .i64 e0_) ∧ w'.cell? ⟨b3, o3 + 1, none⟩ = some (.int .i64 e1_))))) (by kernel_rfl) s (fun hHeld => ?_)
    refine wpAnyH_take (i := 0) (v := ?vq3x0) nth0 (by kernel_rfl) (by kernel_rfl) (by kernel_rfl) (fun _ _ _ h => h) (Or.inl ⟨by rfl, ?hyq3x0⟩) hHeld ?_
    case hyq3x0 => (intro wH hSw; (try dsimp only at hSw); go_simp; (try with_reducible rfl))
    simp only [Act.put, List.setIfInBounds_toArray, List.set_cons_zero, List.set_cons_succ]
    refine wpAnyH_ready (rs := [1]) (by kernel_rfl) (by simp) ?_
    refine AllReadyH.cons nth1 (fun K hK => ?_) ?_
    · go_simp
      go_at_call 60
      refine (spec_arm a1 (some ⟨b2, o2, none⟩) (some ⟨b3, o3, none⟩) n1 c1 n2 c2 n3 c3 l lo hi _ h1.out h2.out h3.out hm.out hr.out).mono ?_
      rintro e wa ⟨rfl, q⟩
      rw [hA.out]
      replace bb := Lib.hid (bel_after bb.out q)
      replace k0 := k0.after q
      replace hr := Lib.hid (hr.out.after q)
      clear q s
      clear hHeld
      have s := And.intro (And.intro k0.c0 (And.intro k0.c1 k0.c2)) (And.intro (And.intro (rowv hr.out.2.1 (Below.refl _ _) (k := 0) (by rw [h2.out]; omega) hx0.out) (rowv hr.out.2.1 (Below.refl _ _) (k := 1) (by rw [h2.out]; omega) hx1.out)) (And.intro (rowv hr.out.2.2 (Below.refl _ _) (k := 0) (by rw [h3.out]; omega) hx2.out) (rowv hr.out.2.2 (Below.refl _ _) (k := 1) (by rw [h3.out]; omega) hx3.out)))
      refine hK.out _ _ s (fun hHeld => ?_)
      clear hK K
      try simp only [Act.put, List.setIfInBounds_toArray, List.set_cons_zero, List.set_cons_succ]
      refine wpAnyH_take (i := 2) (v := ?vq3x2) nth2 (by kernel_rfl) (by kernel_rfl) (by kernel_rfl) (fun _ _ _ h => h) (Or.inl ⟨by rfl, ?hyq3x2⟩) hHeld ?_
      case hyq3x2 => (intro wH hSw; (try dsimp only at hSw); go_simp; (try with_reducible rfl))
      simp only [Act.put, List.setIfInBounds_toArray, List.set_cons_zero, List.set_cons_succ]
      refine wpAnyH_take (i := 3) (v := ?vq3x3) nth3 (by kernel_rfl) (by kernel_rfl) (by kernel_rfl) (fun _ _ _ h => h) (Or.inl ⟨by rfl, ?hyq3x3⟩) hHeld ?_
      case hyq3x3 => (intro wH hSw; (try dsimp only at hSw); go_simp; (try with_reducible rfl))
      simp only [Act.put, List.setIfInBounds_toArray, List.set_cons_zero, List.set_cons_succ]
      refine wpAnyH_take (i := 4) (v := ?vq3x4) nth4 (by kernel_rfl) (by kernel_rfl) (by kernel_rfl) (fun _ _ _ h => h) (Or.inl ⟨by rfl, ?hyq3x4⟩) hHeld ?_
      case hyq3x4 => (intro wH hSw; (try dsimp only at hSw); go_simp; (try with_reducible rfl))
      simp only [Act.put, List.setIfInBounds_toArray, List.set_cons_zero, List.set_cons_succ]
      refine wpAnyH_take (i := 5) (v := ?vq3x5) nth5 (by kernel_rfl) (by kernel_rfl) (by kernel_rfl) (fun _ _ _ h => h) (Or.inl ⟨by rfl, ?hyq3x5⟩) hHeld ?_
      case hyq3x5 => (intro wH hSw; (try dsimp only at hSw); go_simp; (try with_reducible rfl))
      simp only [Act.put, List.setIfInBounds_toArray, List.set_cons_zero, List.set_cons_succ]
      refine wpAnyH_take (i := 6) (v := ?vq3x6) nth6 (by kernel_rfl) (by kernel_rfl) (by kernel_rfl) (fun _ _ _ h => h) (Or.inl ⟨by rfl, ?hyq3x6⟩) hHeld ?_
      case hyq3x6 => (intro wH hSw; (try dsimp only at hSw); go_simp; (try with_reducible rfl))
      simp only [Act.put, List.setIfInBounds_toArray, List.set_cons_zero, List.set_cons_succ]
      refine wpAnyH_take (i := 7) (v := ?vq3x7) nth7 (by kernel_rfl) (by kernel_rfl) (by kernel_rfl) (fun _ _ _ h => h) (Or.inl ⟨by rfl, ?hyq3x7⟩) hHeld ?_
      case hyq3x7 => (intro wH hSw; (try dsimp only at hSw); go_simp; (try with_reducible rfl))
      simp only [Act.put, List.setIfInBounds_toArray, List.set_cons_zero, List.set_cons_succ]
      refine wpAnyH_take (i := 8) (v := ?vq3x8) nth8 (by kernel_rfl) (by kernel_rfl) (by kernel_rfl) (fun _ _ _ h => h) (Or.inl ⟨by rfl, ?hyq3x8⟩) hHeld ?_
      case hyq3x8 => (intro wH hSw; (try dsimp only at hSw); go_simp; (try with_reducible rfl))
      simp only [Act.put, List.setIfInBounds_toArray, List.set_cons_zero, List.set_cons_succ]
      refine wpAnyH_take (i := 9) (v := ?vq3x9) nth9 (by kernel_rfl) (by kernel_rfl) (by kernel_rfl) (fun _ _ _ h => h) (Or.inl ⟨by rfl, ?hyq3x9⟩) hHeld ?_
      case hyq3x9 => (intro wH hSw; (try dsimp only at hSw); go_simp; (try with_reducible rfl))
      simp only [Act.put, List.setIfInBounds_toArray, List.set_cons_zero, List.set_cons_succ]
      refine wpAnyH_take (i := 10) (v := ?vq3x10) nth10 (by kernel_rfl) (by kernel_rfl) (by kernel_rfl) (fun _ _ _ h => h) (Or.inl ⟨by rfl, ?hyq3x10⟩) hHeld ?_
      case hyq3x10 => (intro wH hSw; (try dsimp only at hSw); go_simp; (try with_reducible rfl))
      simp only [Act.put, List.setIfInBounds_toArray, List.set_cons_zero, List.set_cons_succ]
      refine wpAnyH_take (i := 11) (v := ?vq3x11) nth11 (by kernel_rfl) (by kernel_rfl) (by kernel_rfl) (fun _ _ _ h => h) (Or.inl ⟨by rfl, ?hyq3x11⟩) hHeld ?_
      case hyq3x11 => (intro wH hSw; (try dsimp only at hSw); go_simp; (try with_reducible rfl))
      simp only [Act.put, List.setIfInBounds_toArray, List.set_cons_zero, List.set_cons_succ]
      refine wpAnyH_take (i := 12) (v := ?vq3x12) nth12 (by kernel_rfl) (by kernel_rfl) (by kernel_rfl) (fun _ _ _ h => h) (Or.inl ⟨by rfl, ?hyq3x12⟩) hHeld ?_
      case hyq3x12 => (intro wH hSw; (try dsimp only at hSw); go_simp; (try with_reducible rfl))
      simp only [Act.put, List.setIfInBounds_toArray, List.set_cons_zero, List.set_cons_succ]
      refine wpAnyH_take (i := 13) (v := ?vq3x13) nth13 (by kernel_rfl) (by kernel_rfl) (by kernel_rfl) (fun _ _ _ h => h) (Or.inl ⟨by rfl, ?hyq3x13⟩) hHeld ?_
      case hyq3x13 => (intro wH hSw; (try dsimp only at hSw); go_simp; (try with_reducible rfl))
      simp only [Act.put, List.setIfInBounds_toArray, List.set_cons_zero, List.set_cons_succ]
      refine wpAnyH_take (i := 14) (v := ?vq3x14) nth14 (by kernel_rfl) (by kernel_rfl) (by kernel_rfl) (fun _ _ _ h => h) (Or.inl ⟨by rfl, ?hyq3x14⟩) hHeld ?_
      case hyq3x14 => (intro wH hSw; (try dsimp only at hSw); go_simp; (try with_reducible rfl))
      simp only [Act.put, List.setIfInBounds_toArray, List.set_cons_zero, List.set_cons_succ]
      refine wpAnyH_take (i := 15) (v := ?vq3x15) nth15 (by kernel_rfl) (by kernel_rfl) (by kernel_rfl) (fun _ _ _ h => h) (Or.inl ⟨by rfl, ?hyq3x15⟩) hHeld ?_
      case hyq3x15 => (intro wH hSw; (try dsimp only at hSw); go_simp; (try with_reducible rfl))
      simp only [Act.put, List.setIfInBounds_toArray, List.set_cons_zero, List.set_cons_succ]
      refine wpAnyH_take (i := 16) (v := ?vq3x16) nth16 (by kernel_rfl) (by kernel_rfl) (by kernel_rfl) (fun _ _ _ h => h) (Or.inl ⟨by rfl, ?hyq3x16⟩) hHeld ?_
      case hyq3x16 => (intro wH hSw; (try dsimp only at hSw); go_simp; (try with_reducible rfl))
      simp only [Act.put, List.setIfInBounds_toArray, List.set_cons_zero, List.set_cons_succ]
      refine wpAnyH_take (i := 17) (v := ?vq3x17) nth17 (by kernel_rfl) (by kernel_rfl) (by kernel_rfl) (fun _ _ _ h => h) (Or.inl ⟨by rfl, ?hyq3x17⟩) hHeld ?_
      case hyq3x17 => (intro wH hSw; (try dsimp only at hSw); go_simp; (try with_reducible rfl))
      simp only [Act.put, List.setIfInBounds_toArray, List.set_cons_zero, List.set_cons_succ]
      refine wpAnyH_take (i := 18) (v := ?vq3x18) nth18 (by kernel_rfl) (by kernel_rfl) (by kernel_rfl) (fun _ _ _ h => h) (Or.inl ⟨by rfl, ?hyq3x18⟩) hHeld ?_
      case hyq3x18 => (intro wH hSw; (try dsimp only at hSw); go_simp; (try with_reducible rfl))
      simp only [Act.put, List.setIfInBounds_toArray, List.set_cons_zero, List.set_cons_succ]
      refine wpAnyH_take (i := 19) (v := ?vq3x19) nth19 (by kernel_rfl) (by kernel_rfl) (by kernel_rfl) (fun _ _ _ h => h) (Or.inl ⟨by rfl, ?hyq3x19⟩) hHeld ?_
      case hyq3x19 => (intro wH hSw; (try dsimp only at hSw); go_simp; (try with_reducible rfl))
      simp only [Act.put, List.setIfInBounds_toArray, List.set_cons_zero, List.set_cons_succ]
      refine wpAnyH_take (i := 20) (v := ?vq3x20) nth20 (by kernel_rfl) (by kernel_rfl) (by kernel_rfl) (fun _ _ _ h => h) (Or.inl ⟨by rfl, ?hyq3x20⟩) hHeld ?_
      case hyq3x20 => (intro wH hSw; (try dsimp only at hSw); go_simp; (try with_reducible rfl))
      simp only [Act.put, List.setIfInBounds_toArray, List.set_cons_zero, List.set_cons_succ]
      refine wpAnyH_take (i := 21) (v := ?vq3x21) nth21 (by kernel_rfl) (by kernel_rfl) (by kernel_rfl) (fun _ _ _ h => h) (Or.inl ⟨by rfl, ?hyq3x21⟩) hHeld ?_
      case hyq3x21 => (intro wH hSw; (try dsimp only at hSw); go_simp; (try with_reducible rfl))
      simp only [Act.put, List.setIfInBounds_toArray, List.set_cons_zero, List.set_cons_succ]
      refine wpAnyH_take (i := 22) (v := ?vq3x22) nth22 (by kernel_rfl) (by kernel_rfl) (by kernel_rfl) (fun _ _ _ h => h) (Or.inl ⟨by rfl, ?hyq3x22⟩) hHeld ?_
      case hyq3x22 => (intro wH hSw; (try dsimp only at hSw); go_simp; (try with_reducible rfl))
      simp only [Act.put, List.setIfInBounds_toArray, List.set_cons_zero, List.set_cons_succ]
      refine wpAnyH_take (i := 23) (v := ?vq3x23) nth23 (by kernel_rfl) (by kernel_rfl) (by kernel_rfl) (fun _ _ _ h => h) (Or.inl ⟨by rfl, ?hyq3x23⟩) hHeld ?_
      case hyq3x23 => (intro wH hSw; (try dsimp only at hSw); go_simp; (try with_reducible rfl))
      simp only [Act.put, List.setIfInBounds_toArray, List.set_cons_zero, List.set_cons_succ]
      refine wpAnyH_take (i := 24) (v := ?vq3x24) nth24 (by kernel_rfl) (by kernel_rfl) (by kernel_rfl) (fun _ _ _ h => h) (Or.inl ⟨by rfl, ?hyq3x24⟩) hHeld ?_
      case hyq3x24 => (intro wH hSw; (try dsimp only at hSw); go_simp; (try with_reducible rfl))
      simp only [Act.put, List.setIfInBounds_toArray, List.set_cons_zero, List.set_cons_succ]
      refine wpAnyH_take (i := 25) (v := ?vq3x25) nth25 (by kernel_rfl) (by kernel_rfl) (by kernel_rfl) (fun _ _ _ h => h) (Or.inl ⟨by rfl, ?hyq3x25⟩) hHeld ?_
      case hyq3x25 => (intro wH hSw; (try dsimp only at hSw); go_simp; (try with_reducible rfl))
      simp only [Act.put, List.setIfInBounds_toArray, List.set_cons_zero, List.set_cons_succ]
      refine wpAnyH_take (i := 26) (v := ?vq3x26) nth26 (by kernel_rfl) (by kernel_rfl) (by kernel_rfl) (fun _ _ _ h => h) (Or.inl ⟨by rfl, ?hyq3x26⟩) hHeld ?_
      case hyq3x26 => (intro wH hSw; (try dsimp only at hSw); go_simp; (try with_reducible rfl))
      simp only [Act.put, List.setIfInBounds_toArray, List.set_cons_zero, List.set_cons_succ]
      refine wpAnyH_take (i := 27) (v := ?vq3x27) nth27 (by kernel_rfl) (by kernel_rfl) (by kernel_rfl) (fun _ _ _ h => h) (Or.inl ⟨by rfl, ?hyq3x27⟩) hHeld ?_
      case hyq3x27 => (intro wH hSw; (try dsimp only at hSw); go_simp; (try with_reducible rfl))
      simp only [Act.put, List.setIfInBounds_toArray, List.set_cons_zero, List.set_cons_succ]
      refine wpAnyH_take (i := 28) (v := ?vq3x28) nth28 (by kernel_rfl) (by kernel_rfl) (by kernel_rfl) (fun _ _ _ h => h) (Or.inl ⟨by rfl, ?hyq3x28⟩) hHeld ?_
      case hyq3x28 => (intro wH hSw; (try dsimp only at hSw); go_simp; (try with_reducible rfl))
      simp only [Act.put, List.setIfInBounds_toArray, List.set_cons_zero, List.set_cons_succ]
      refine wpAnyH_take (i := 29) (v := ?vq3x29) nth29 (by kernel_rfl) (by kernel_rfl) (by kernel_rfl) (fun _ _ _ h => h) (Or.inl ⟨by rfl, ?hyq3x29⟩) hHeld ?_
      case hyq3x29 => (intro wH hSw; (try dsimp only at hSw); go_simp; (try with_reducible rfl))
      simp only [Act.put, List.setIfInBounds_toArray, List.set_cons_zero, List.set_cons_succ]
      refine wpAnyH_take (i := 30) (v := ?vq3x30) nth30 (by kernel_rfl) (by kernel_rfl) (by kernel_rfl) (fun _ _ _ h => h) (Or.inl ⟨by rfl, ?hyq3x30⟩) hHeld ?_
      case hyq3x30 => (intro wH hSw; (try dsimp only at hSw); go_simp; (try with_reducible rfl))
      simp only [Act.put, List.setIfInBounds_toArray, List.set_cons_zero, List.set_cons_succ]
      refine wpAnyH_take (i := 31) (v := ?vq3x31) nth31 (by kernel_rfl) (by kernel_rfl) (by kernel_rfl) (fun _ _ _ h => h) (Or.inl ⟨by rfl, ?hyq3x31⟩) hHeld ?_
      case hyq3x31 => (intro wH hSw; (try dsimp only at hSw); go_simp; (try with_reducible rfl))
      simp only [Act.put, List.setIfInBounds_toArray, List.set_cons_zero, List.set_cons_succ]
      refine wpAnyH_take (i := 32) (v := ?vq3x32) nth32 (by kernel_rfl) (by kernel_rfl) (by kernel_rfl) (fun _ _ _ h => h) (Or.inl ⟨by rfl, ?hyq3x32⟩) hHeld ?_
      case hyq3x32 => (intro wH hSw; (try dsimp only at hSw); go_simp; (try with_reducible rfl))
      simp only [Act.put, List.setIfInBounds_toArray, List.set_cons_zero, List.set_cons_succ]
      refine wpAnyH_done (by kernel_rfl) ?_ _
      clear s hHeld
      go_wp2_with fail
      go_ret
      exact ⟨ret_bool hfin.out, bb.out⟩
    exact AllReadyH.nil
  replace hq : (e0_ - a0_ + 1) * (e1_ - a1_ + 1) ≤ 40000 := by omega
  have hfin := Lib.hid (M.sweep_yes (hfits.1 hq))
  have hgt : decide ((e0_ - a0_ + 1) * (e1_ - a1_ + 1) ≤ (40000 : Int)) = true := by simp; omega
  clear hfits
  have s := And.intro (And.intro k0.c0 (And.intro k0.c1 k0.c2)) (And.intro (And.intro (rowv hr.out.2.1 (Below.refl _ _) (k := 0) (by rw [h2.out]; omega) hx0.out) (rowv hr.out.2.1 (Below.refl _ _) (k := 1) (by rw [h2.out]; omega) hx1.out)) (And.intro (rowv hr.out.2.2 (Below.refl _ _) (k := 0) (by rw [h3.out]; omega) hx2.out) (rowv hr.out.2.2 (Below.refl _ _) (k := 1) (by rw [h3.out]; omega) hx3.out)))
  refine wp_region_held_drew (S := (fun w' => (w'.cell? ⟨w.heap.size, 0, none⟩ = some (.slice a1 n1 c1) ∧ w'.cell? ⟨w.heap.size, 1, none⟩ = some (.slice (some ⟨b2, o2, none⟩) n2 c2) ∧ w'.cell? ⟨w.heap.size, 2, none⟩ = some (.slice (some ⟨b3, o3, none⟩) n3 c3)) ∧ ((w'.cell? ⟨b2, o2, none⟩ = some (.int .i64 a0_) ∧ w'.cell? ⟨b2, o2 + 1, none⟩ = some (.int .i64 a1_)) ∧ (w'.cell? ⟨b3, o3, none⟩ = some (.int .i64 e0_) ∧ w'.cell? ⟨b3, o3 + 1, none⟩ = some (.int .i64 e1_))))) (by kernel_rfl) s (fun hHeld => ?_)
  refine wpAnyH_take (i := 0) (v := ?vq4x0) nth0 (by kernel_rfl) (by kernel_rfl) (by kernel_rfl) (fun _ _ _ h => h) (Or.inl ⟨by rfl, ?hyq4x0⟩) hHeld ?_
  case hyq4x0 => (intro wH hSw; (try dsimp only at hSw); go_simp; (try with_reducible rfl))
  simp only [Act.put, List.setIfInBounds_toArray, List.set_cons_zero, List.set_cons_succ]
  refine wpAnyH_ready (rs := [1]) (by kernel_rfl) (by simp) ?_
  refine AllReadyH.cons nth1 (fun K hK => ?_) ?_
  · go_simp
    go_at_call 60
    refine (spec_arm a1 (some ⟨b2, o2, none⟩) (some ⟨b3, o3, none⟩) n1 c1 n2 c2 n3 c3 l lo hi _ h1.out h2.out h3.out hm.out hr.out).mono ?_
    rintro e wa ⟨rfl, q⟩
    rw [hA.out]
    replace bb := Lib.hid (bel_after bb.out q)
    replace k0 := k0.after q
    replace hr := Lib.hid (hr.out.after q)
    clear q s
    clear hHeld
    have s := And.intro (And.intro k0.c0 (And.intro k0.c1 k0.c2)) (And.intro (And.intro (rowv hr.out.2.1 (Below.refl _ _) (k := 0) (by rw [h2.out]; omega) hx0.out) (rowv hr.out.2.1 (Below.refl _ _) (k := 1) (by rw [h2.out]; omega) hx1.out)) (And.intro (rowv hr.out.2.2 (Below.refl _ _) (k := 0) (by rw [h3.out]; omega) hx2.out) (rowv hr.out.2.2 (Below.refl _ _) (k := 1) (by rw [h3.out]; omega) hx3.out)))
    refine hK.out _ _ s (fun hHeld => ?_)
    clear hK K
    try simp only [Act.put, List.setIfInBounds_toArray, List.set_cons_zero, List.set_cons_succ]
    refine wpAnyH_take (i := 2) (v := ?vq4x2) nth2 (by kernel_rfl) (by kernel_rfl) (by kernel_rfl) (fun _ _ _ h => h) (Or.inl ⟨by rfl, ?hyq4x2⟩) hHeld ?_
    case hyq4x2 => (intro wH hSw; (try dsimp only at hSw); go_simp; (try with_reducible rfl))
    simp only [Act.put, List.setIfInBounds_toArray, List.set_cons_zero, List.set_cons_succ]
    refine wpAnyH_take (i := 3) (v := ?vq4x3) nth3 (by kernel_rfl) (by kernel_rfl) (by kernel_rfl) (fun _ _ _ h => h) (Or.inl ⟨by rfl, ?hyq4x3⟩) hHeld ?_
    case hyq4x3 => (intro wH hSw; (try dsimp only at hSw); go_simp; (try with_reducible rfl))
    simp only [Act.put, List.setIfInBounds_toArray, List.set_cons_zero, List.set_cons_succ]
    refine wpAnyH_take (i := 4) (v := ?vq4x4) nth4 (by kernel_rfl) (by kernel_rfl) (by kernel_rfl) (fun _ _ _ h => h) (Or.inl ⟨by rfl, ?hyq4x4⟩) hHeld ?_
    case hyq4x4 => (intro wH hSw; (try dsimp only at hSw); go_simp; (try with_reducible rfl))
    simp only [Act.put, List.setIfInBounds_toArray, List.set_cons_zero, List.set_cons_succ]
    refine wpAnyH_take (i := 5) (v := ?vq4x5) nth5 (by kernel_rfl) (by kernel_rfl) (by kernel_rfl) (fun _ _ _ h => h) (Or.inl ⟨by rfl, ?hyq4x5⟩) hHeld ?_
    case hyq4x5 => (intro wH hSw; (try dsimp only at hSw); go_simp; (try with_reducible rfl))
    simp only [Act.put, List.setIfInBounds_toArray, List.set_cons_zero, List.set_cons_succ]
    refine wpAnyH_take (i := 6) (v := ?vq4x6) nth6 (by kernel_rfl) (by kernel_rfl) (by kernel_rfl) (fun _ _ _ h => h) (Or.inl ⟨by rfl, ?hyq4x6⟩) hHeld ?_
    case hyq4x6 => (intro wH hSw; (try dsimp only at hSw); go_simp; (try with_reducible rfl))
    simp only [Act.put, List.setIfInBounds_toArray, List.set_cons_zero, List.set_cons_succ]
    refine wpAnyH_take (i := 7) (v := ?vq4x7) nth7 (by kernel_rfl) (by kernel_rfl) (by kernel_rfl) (fun _ _ _ h => h) (Or.inl ⟨by rfl, ?hyq4x7⟩) hHeld ?_
    case hyq4x7 => (intro wH hSw; (try dsimp only at hSw); go_simp; (try with_reducible rfl))
    simp only [Act.put, List.setIfInBounds_toArray, List.set_cons_zero, List.set_cons_succ]
    refine wpAnyH_take (i := 8) (v := ?vq4x8) nth8 (by kernel_rfl) (by kernel_rfl) (by kernel_rfl) (fun _ _ _ h => h) (Or.inl ⟨by rfl, ?hyq4x8⟩) hHeld ?_
    case hyq4x8 => (intro wH hSw; (try dsimp only at hSw); go_simp; (try with_reducible rfl))
    simp only [Act.put, List.setIfInBounds_toArray, List.set_cons_zero, List.set_cons_succ]
    refine wpAnyH_take (i := 9) (v := ?vq4x9) nth9 (by kernel_rfl) (by kernel_rfl) (by kernel_rfl) (fun _ _ _ h => h) (Or.inl ⟨by rfl, ?hyq4x9⟩) hHeld ?_
    case hyq4x9 => (intro wH hSw; (try dsimp only at hSw); go_simp; (try with_reducible rfl))
    simp only [Act.put, List.setIfInBounds_toArray, List.set_cons_zero, List.set_cons_succ]
    refine wpAnyH_take (i := 10) (v := ?vq4x10) nth10 (by kernel_rfl) (by kernel_rfl) (by kernel_rfl) (fun _ _ _ h => h) (Or.inl ⟨by rfl, ?hyq4x10⟩) hHeld ?_
    case hyq4x10 => (intro wH hSw; (try dsimp only at hSw); go_simp; (try with_reducible rfl))
    simp only [Act.put, List.setIfInBounds_toArray, List.set_cons_zero, List.set_cons_succ]
    refine wpAnyH_take (i := 11) (v := ?vq4x11) nth11 (by kernel_rfl) (by kernel_rfl) (by kernel_rfl) (fun _ _ _ h => h) (Or.inl ⟨by rfl, ?hyq4x11⟩) hHeld ?_
    case hyq4x11 => (intro wH hSw; (try dsimp only at hSw); go_simp; (try with_reducible rfl))
    simp only [Act.put, List.setIfInBounds_toArray, List.set_cons_zero, List.set_cons_succ]
    refine wpAnyH_take (i := 12) (v := ?vq4x12) nth12 (by kernel_rfl) (by kernel_rfl) (by kernel_rfl) (fun _ _ _ h => h) (Or.inl ⟨by rfl, ?hyq4x12⟩) hHeld ?_
    case hyq4x12 => (intro wH hSw; (try dsimp only at hSw); go_simp; (try with_reducible rfl))
    simp only [Act.put, List.setIfInBounds_toArray, List.set_cons_zero, List.set_cons_succ]
    refine wpAnyH_take (i := 13) (v := ?vq4x13) nth13 (by kernel_rfl) (by kernel_rfl) (by kernel_rfl) (fun _ _ _ h => h) (Or.inl ⟨by rfl, ?hyq4x13⟩) hHeld ?_
    case hyq4x13 => (intro wH hSw; (try dsimp only at hSw); go_simp; (try with_reducible rfl))
    simp only [Act.put, List.setIfInBounds_toArray, List.set_cons_zero, List.set_cons_succ]
    refine wpAnyH_take (i := 14) (v := ?vq4x14) nth14 (by kernel_rfl) (by kernel_rfl) (by kernel_rfl) (fun _ _ _ h => h) (Or.inl ⟨by rfl, ?hyq4x14⟩) hHeld ?_
    case hyq4x14 => (intro wH hSw; (try dsimp only at hSw); go_simp; (try with_reducible rfl))
    simp only [Act.put, List.setIfInBounds_toArray, List.set_cons_zero, List.set_cons_succ]
    refine wpAnyH_take (i := 15) (v := ?vq4x15) nth15 (by kernel_rfl) (by kernel_rfl) (by kernel_rfl) (fun _ _ _ h => h) (Or.inl ⟨by rfl, ?hyq4x15⟩) hHeld ?_
    case hyq4x15 => (intro wH hSw; (try dsimp only at hSw); go_simp; (try with_reducible rfl))
    simp only [Act.put, List.setIfInBounds_toArray, List.set_cons_zero, List.set_cons_succ]
    refine wpAnyH_take (i := 16) (v := ?vq4x16) nth16 (by kernel_rfl) (by kernel_rfl) (by kernel_rfl) (fun _ _ _ h => h) (Or.inl ⟨by rfl, ?hyq4x16⟩) hHeld ?_
    case hyq4x16 => (intro wH hSw; (try dsimp only at hSw); go_simp; (try with_reducible rfl))
    simp only [Act.put, List.setIfInBounds_toArray, List.set_cons_zero, List.set_cons_succ]
    refine wpAnyH_take (i := 17) (v := ?vq4x17) nth17 (by kernel_rfl) (by kernel_rfl) (by kernel_rfl) (fun _ _ _ h => h) (Or.inl ⟨by rfl, ?hyq4x17⟩) hHeld ?_
    case hyq4x17 => (intro wH hSw; (try dsimp only at hSw); go_simp; (try with_reducible rfl))
    simp only [Act.put, List.setIfInBounds_toArray, List.set_cons_zero, List.set_cons_succ]
    refine wpAnyH_take (i := 18) (v := ?vq4x18) nth18 (by kernel_rfl) (by kernel_rfl) (by kernel_rfl) (fun _ _ _ h => h) (Or.inl ⟨by rfl, ?hyq4x18⟩) hHeld ?_
    case hyq4x18 => (intro wH hSw; (try dsimp only at hSw); go_simp; (try with_reducible rfl))
    simp only [Act.put, List.setIfInBounds_toArray, List.set_cons_zero, List.set_cons_succ]
    refine wpAnyH_take (i := 19) (v := ?vq4x19) nth19 (by kernel_rfl) (by kernel_rfl) (by kernel_rfl) (fun _ _ _ h => h) (Or.inl ⟨by rfl, ?hyq4x19⟩) hHeld ?_
    case hyq4x19 => (intro wH hSw; (try dsimp only at hSw); go_simp; (try with_reducible rfl))
    simp only [Act.put, List.setIfInBounds_toArray, List.set_cons_zero, List.set_cons_succ]
    refine wpAnyH_take (i := 20) (v := ?vq4x20) nth20 (by kernel_rfl) (by kernel_rfl) (by kernel_rfl) (fun _ _ _ h => h) (Or.inl ⟨by rfl, ?hyq4x20⟩) hHeld ?_
    case hyq4x20 => (intro wH hSw; (try dsimp only at hSw); go_simp; (try with_reducible rfl))
    simp only [Act.put, List.setIfInBounds_toArray, List.set_cons_zero, List.set_cons_succ]
    refine wpAnyH_take (i := 21) (v := ?vq4x21) nth21 (by kernel_rfl) (by kernel_rfl) (by kernel_rfl) (fun _ _ _ h => h) (Or.inl ⟨by rfl, ?hyq4x21⟩) hHeld ?_
    case hyq4x21 => (intro wH hSw; (try dsimp only at hSw); go_simp; (try with_reducible rfl))
    simp only [Act.put, List.setIfInBounds_toArray, List.set_cons_zero, List.set_cons_succ]
    refine wpAnyH_take (i := 22) (v := ?vq4x22) nth22 (by kernel_rfl) (by kernel_rfl) (by kernel_rfl) (fun _ _ _ h => h) (Or.inl ⟨by rfl, ?hyq4x22⟩) hHeld ?_
    case hyq4x22 => (intro wH hSw; (try dsimp only at hSw); go_simp; (try with_reducible rfl))
    simp only [Act.put, List.setIfInBounds_toArray, List.set_cons_zero, List.set_cons_succ]
    refine wpAnyH_take (i := 23) (v := ?vq4x23) nth23 (by kernel_rfl) (by kernel_rfl) (by kernel_rfl) (fun _ _ _ h => h) (Or.inl ⟨by rfl, ?hyq4x23⟩) hHeld ?_
    case hyq4x23 => (intro wH hSw; (try dsimp only at hSw); go_simp; (try with_reducible rfl))
    simp only [Act.put, List.setIfInBounds_toArray, List.set_cons_zero, List.set_cons_succ]
    refine wpAnyH_take (i := 24) (v := ?vq4x24) nth24 (by kernel_rfl) (by kernel_rfl) (by kernel_rfl) (fun _ _ _ h => h) (Or.inl ⟨by rfl, ?hyq4x24⟩) hHeld ?_
    case hyq4x24 => (intro wH hSw; (try dsimp only at hSw); go_simp; (try with_reducible rfl))
    simp only [Act.put, List.setIfInBounds_toArray, List.set_cons_zero, List.set_cons_succ]
    refine wpAnyH_take (i := 25) (v := ?vq4x25) nth25 (by kernel_rfl) (by kernel_rfl) (by kernel_rfl) (fun _ _ _ h => h) (Or.inl ⟨by rfl, ?hyq4x25⟩) hHeld ?_
    case hyq4x25 => (intro wH hSw; (try dsimp only at hSw); go_simp; (try with_reducible rfl))
    simp only [Act.put, List.setIfInBounds_toArray, List.set_cons_zero, List.set_cons_succ]
    refine wpAnyH_take (i := 26) (v := ?vq4x26) nth26 (by kernel_rfl) (by kernel_rfl) (by kernel_rfl) (fun _ _ _ h => h) (Or.inl ⟨by rfl, ?hyq4x26⟩) hHeld ?_
    case hyq4x26 => (intro wH hSw; (try dsimp only at hSw); go_simp; (try with_reducible rfl))
    simp only [Act.put, List.setIfInBounds_toArray, List.set_cons_zero, List.set_cons_succ]
    refine wpAnyH_take (i := 27) (v := ?vq4x27) nth27 (by kernel_rfl) (by kernel_rfl) (by kernel_rfl) (fun _ _ _ h => h) (Or.inl ⟨by rfl, ?hyq4x27⟩) hHeld ?_
    case hyq4x27 => (intro wH hSw; (try dsimp only at hSw); go_simp; (try with_reducible rfl))
    simp only [Act.put, List.setIfInBounds_toArray, List.set_cons_zero, List.set_cons_succ]
    refine wpAnyH_take (i := 28) (v := ?vq4x28) nth28 (by kernel_rfl) (by kernel_rfl) (by kernel_rfl) (fun _ _ _ h => h) (Or.inl ⟨by rfl, ?hyq4x28⟩) hHeld ?_
    case hyq4x28 => (intro wH hSw; (try dsimp only at hSw); go_simp; (try with_reducible rfl))
    simp only [Act.put, List.setIfInBounds_toArray, List.set_cons_zero, List.set_cons_succ]
    refine wpAnyH_take (i := 29) (v := ?vq4x29) nth29 (by kernel_rfl) (by kernel_rfl) (by kernel_rfl) (fun _ _ _ h => h) (Or.inl ⟨by rfl, ?hyq4x29⟩) hHeld ?_
    case hyq4x29 => (intro wH hSw; (try dsimp only at hSw); go_simp; (try with_reducible rfl))
    simp only [Act.put, List.setIfInBounds_toArray, List.set_cons_zero, List.set_cons_succ]
    refine wpAnyH_take (i := 30) (v := ?vq4x30) nth30 (by kernel_rfl) (by kernel_rfl) (by kernel_rfl) (fun _ _ _ h => h) (Or.inl ⟨by rfl, ?hyq4x30⟩) hHeld ?_
    case hyq4x30 => (intro wH hSw; (try dsimp only at hSw); go_simp; (try with_reducible rfl))
    simp only [Act.put, List.setIfInBounds_toArray, List.set_cons_zero, List.set_cons_succ]
    refine wpAnyH_take (i := 31) (v := ?vq4x31) nth31 (by kernel_rfl) (by kernel_rfl) (by kernel_rfl) (fun _ _ _ h => h) (Or.inl ⟨by rfl, ?hyq4x31⟩) hHeld ?_
    case hyq4x31 => (intro wH hSw; (try dsimp only at hSw); go_simp; (try with_reducible rfl))
    simp only [Act.put, List.setIfInBounds_toArray, List.set_cons_zero, List.set_cons_succ]
    refine wpAnyH_take (i := 32) (v := ?vq4x32) nth32 (by kernel_rfl) (by kernel_rfl) (by kernel_rfl) (fun _ _ _ h => h) (Or.inl ⟨by rfl, ?hyq4x32⟩) hHeld ?_
    case hyq4x32 => (intro wH hSw; (try dsimp only at hSw); go_simp; (try with_reducible rfl))
    simp only [Act.put, List.setIfInBounds_toArray, List.set_cons_zero, List.set_cons_succ]
    refine wpAnyH_done (by kernel_rfl) ?_ _
    clear s hHeld
    go_wp2_with fail
    go_ret
    exact ⟨ret_bool hfin.out, bb.out⟩
  exact AllReadyH.nil
end Go.Proofs.YtmainffjekjlnaaDoor
