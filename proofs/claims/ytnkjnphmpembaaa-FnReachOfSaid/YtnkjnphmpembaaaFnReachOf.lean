/- Proves that the law FnReachOf returns true for every input. Conditions: none. -/
import Derived.Test.YtnkjnphmpembaaaRows
import Derived.Test.YtnkjnphmpembaaaDraws
import Derived.Test.YtnkjnphmpembaaaReach
import Derived.Test.YtnkjnphmpembaaaAlive
import Derived.ChangeOld
import Derived.ShutString
import Derived.Lib.SmallJoins
import Derived.Deep.RegionHeld3
import Derived.Deep.DeepCutAuto
import Derived.Deep.CutBlock
namespace Go.Proofs.Ytnkjnphmpembaaa.fnReachOf
open Go.ChangeShapes Go.WideShapes Go.ChangeAt Go.RowKit
set_option linter.unusedVariables false
theorem abs_int (n : Int) (w : World) (h1 : -1000000 ≤ n) (h2 : n ≤ 1000000) : Calls Try.prog 27 #[.int .i64 n] w fun e w' => e = .returned (.int .i64 (max n (-n))) ∧ w' = w := by
  by_cases h : n < -n
  · go_enter Try.func27, Try.ntmps27
    go_wp2
    go_ret
    exact ⟨ret_int (by omega), rfl⟩
  · go_enter Try.func27, Try.ntmps27
    go_wp2
    go_ret
    exact ⟨ret_int (by omega), rfl⟩
theorem M.maxT_le_sum {l : List Int} : ∀ {k : Nat}, (∀ i, i < k → 1 ≤ l.getD i 0) → 0 ≤ M.maxT l k ∧ M.maxT l k ≤ M.sumT l k := by
  intro k
  induction k with
  | zero => intro _; unfold M.maxT M.sumT; omega
  | succ k ih =>
    intro h
    have h1 := ih (fun i hi => h i (by omega))
    have h2 := h k (by omega)
    unfold M.maxT M.sumT
    omega
/-- what the law says of the reach -/
theorem M.reach_law {l lo hi : List Int} (h : M.armB l lo hi = true) : (0 ≤ M.near l lo hi ∧ M.near l lo hi ≤ M.far l lo hi) ∧ (l.length = 1 → M.near l lo hi = M.far l lo hi) ∧ (l.length = 2 → M.near l lo hi = max (l.getD 0 0 - l.getD 1 0) (-(l.getD 0 0 - l.getD 1 0))) := by
  obtain ⟨⟨⟨e1, e2⟩, _, _⟩, hv⟩ := M.armB_true h
  obtain ⟨r1, r2⟩ := M.reach_yes h
  obtain ⟨m1, m2⟩ := M.maxT_le_sum (l := l) (k := l.length) (fun i hi => (hv i hi).1.1)
  rw [r1, r2]
  refine ⟨by omega, ?_, ?_⟩
  · intro e
    have h0 := (hv 0 (by omega)).1
    have a1 : M.maxT l 1 = max 0 (l.getD 0 0) := rfl
    have a2 : M.sumT l 1 = 0 + l.getD 0 0 := rfl
    rw [e, a1, a2]
    omega
  · intro e
    have h0 := (hv 0 (by omega)).1
    have h1 := (hv 1 (by omega)).1
    have a1 : M.maxT l 2 = max (max 0 (l.getD 0 0)) (l.getD 1 0) := rfl
    have a2 : M.sumT l 2 = (0 + l.getD 0 0) + l.getD 1 0 := rfl
    rw [e, a1, a2]
    omega
set_option maxRecDepth 20000 in
set_option maxHeartbeats 8000000 in
theorem walk (a0 : Option Addr) (len0 cap0 : Nat) (z0 : List Int) (w : World) (w0 : IsRow .u8 w a0 len0 cap0 z0) :
    Calls Try.prog 7 #[.slice a0 len0 cap0] w fun e w' => e = .returned (.bool true) ∧ Below w.heap.size w w' := by
  by_cases hlen : (1048576 : Int) < len0
  · go_enter Try.func7, Try.ntmps7
    go_wp2
    go_ret
    exact ⟨rfl, Below.refl _ _⟩
  · go_enter Try.func7, Try.ntmps7
    go_wp2_with fail
    refine (draw_ReachOf a0 len0 cap0 z0 _ w0).mono ?_
    rintro e w1 ⟨a1, n1, c1, a2, n2, c2, a3, n3, c3, l, lo, hi, rfl, hf, q⟩
    have bb := Lib.hid q
    clear w0 hlen q
    obtain ⟨h1, h2, h3⟩ := hf.len
    obtain ⟨m1, m2, m3⟩ := hf.le
    obtain ⟨cp1, cp3⟩ := hf.cap
    have hr := Lib.hid hf.row
    have hr1 := hr
    have bc := Lib.hid (Below.refl w1.heap.size w1)
    have hq1 := bb
    replace h1 := Lib.hid h1
    replace h2 := Lib.hid h2
    replace h3 := Lib.hid h3
    clear hf
    go_wp2_with fail
    have k0 := Cell3.new w1 (.slice a1 n1 c1) (.slice a2 n2 c2) (.slice a3 n3 c3) 25
    have hsB : w1.heap.size < (w1.alloc (.cells #[.slice a1 n1 c1, .slice a2 n2 c2, .slice a3 n3 c3] 25)).heap.size := by simp
    replace bb := Lib.hid (bel_after bb.out (bel_new w1 (.cells #[.slice a1 n1 c1, .slice a2 n2 c2, .slice a3 n3 c3] 25)))
    replace hr := Lib.hid (hr.out.after (bel_new w1 (.cells #[.slice a1 n1 c1, .slice a2 n2 c2, .slice a3 n3 c3] 25)))
    replace bc := Lib.hid (bel_after bc.out (bel_new w1 (.cells #[.slice a1 n1 c1, .slice a2 n2 c2, .slice a3 n3 c3] 25)))
    generalize hK : w1.heap.size = K at k0 ⊢ hsB
    have hKw : w1.heap.size ≤ K := Nat.le_of_eq hK
    clear hK
    generalize w1.alloc (.cells #[.slice a1 n1 c1, .slice a2 n2 c2, .slice a3 n3 c3] 25) = v at *
    obtain ⟨w2, rfl⟩ : ∃ u : World, u = v := ⟨_, rfl⟩
    refine (impl_reach a1 a2 a3 n1 c1 n2 c2 n3 c3 l lo hi _ h1.out h2.out h3.out (by omega) hr.out).mono ?_
    rintro e w3 ⟨rfl, q⟩
    have z3 := q.size
    replace bb := Lib.hid (bel_after bb.out q)
    replace hr := Lib.hid (hr.out.after q)
    replace bc := Lib.hid (bel_after bc.out q)
    replace k0 := k0.after q
    clear q
    obtain ⟨k0x, k0y, k0z, k0u, k0v, k0w⟩ := id k0
    go_wp2_with fail
    clear k0x k0y k0z k0u k0v k0w
    refine (spec_reach a1 a2 a3 n1 c1 n2 c2 n3 c3 l lo hi _ h1.out h2.out h3.out (by omega) hr.out).mono ?_
    rintro e w4 ⟨rfl, q⟩
    have z4 := q.size
    replace bb := Lib.hid (bel_after bb.out q)
    replace hr := Lib.hid (hr.out.after q)
    replace bc := Lib.hid (bel_after bc.out q)
    replace k0 := k0.after q
    clear q
    cases hA : M.armB l lo hi
    · obtain ⟨f1, f2⟩ := M.reach_no hA
      rw [f1, f2]
      clear f1 f2
      obtain ⟨k0x, k0y, k0z, k0u, k0v, k0w⟩ := id k0
      go_wp2_with fail
      clear k0x k0y k0z k0u k0v k0w
      refine (spec_arm a1 a2 a3 n1 c1 n2 c2 n3 c3 l lo hi _ h1.out h2.out h3.out (by omega) hr.out).mono ?_
      rintro e w5 ⟨rfl, q⟩
      have z5 := q.size
      replace bb := Lib.hid (bel_after bb.out q)
      replace hr := Lib.hid (hr.out.after q)
      replace bc := Lib.hid (bel_after bc.out q)
      replace k0 := k0.after q
      clear q
      rw [hA]
      clear hA
      obtain ⟨x0, x1, x2, x3, x4, x5⟩ := id k0
      go_wp2_with (go_at_call 16; refine (alive _).mono ?_; rintro e w' ⟨rfl, rfl⟩)
      go_ret
      exact ⟨rfl, bb.out⟩
    · obtain ⟨⟨f1, f2⟩, f3, f4⟩ := M.reach_law hA
      obtain ⟨⟨⟨e1, e2⟩, _, _⟩, hv⟩ := M.armB_true hA
      rw [h1.out] at f3 f4 e1 e2 hv
      generalize M.far l lo hi = F at *
      generalize M.near l lo hi = N at *
      replace f3 := Lib.hid f3
      replace f4 := Lib.hid f4
      replace hv := Lib.hid hv
      replace hA := Lib.hid hA
      obtain ⟨k0x, k0y, k0z, k0u, k0v, k0w⟩ := id k0
      go_wp2_with fail
      clear k0x k0y k0z k0u k0v k0w
      refine (spec_arm a1 a2 a3 n1 c1 n2 c2 n3 c3 l lo hi _ h1.out h2.out h3.out (by omega) hr.out).mono ?_
      rintro e w6 ⟨rfl, q⟩
      have z6 := q.size
      replace bb := Lib.hid (bel_after bb.out q)
      replace hr := Lib.hid (hr.out.after q)
      replace bc := Lib.hid (bel_after bc.out q)
      replace k0 := k0.after q
      clear q
      rw [hA.out]
      obtain ⟨b1, o1, rfl⟩ := hr.out.1.form (by rw [h1.out]; omega)
      have hc : n1 = 1 ∨ n1 = 2 ∨ 3 ≤ n1 := by omega
      rcases hc with rfl | rfl | hc
      · have f5 := f3.out rfl
        have g1 : (N == F) = true := by simp [f5]
        clear f5
        obtain ⟨x0, x1, x2, x3, x4, x5⟩ := id k0
        go_wp2_with fail
        go_quiet (fail)
        go_wp2_with fail
        go_ret
        exact ⟨rfl, ⟨bb.out.os, bb.out.tape, bb.out.output, bb.out.size, bb.out.block⟩⟩
      · have f5 := f4.out rfl
        have v0 := (hv.out 0 (by omega)).1
        have v1 := (hv.out 1 (by omega)).1
        have y0 := hr.out.1.cell (Below.refl _ _) (k := 0) (by rw [h1.out]; omega)
        have y1 := hr.out.1.cell (Below.refl _ _) (k := 1) (by rw [h1.out]; omega)
        rw [Nat.add_zero] at y0
        generalize l.getD 0 0 = x at *
        generalize l.getD 1 0 = y at *
        obtain ⟨v2, v3⟩ := v0
        obtain ⟨v4, v5⟩ := v1
        have g1 : (N == max (x - y) (-(x - y))) = true := by simp [f5]
        clear f5
        have ew : IntKind.i64.wrap (x - y) = x - y := IntWalk.i64_in _ (by omega)
        obtain ⟨x0, x1, x2, x3, x4, x5⟩ := id k0
        go_wp2_with fail
        go_quiet ((go_at_call 27; refine Calls.quiet_of_same (abs_int _ _ (by omega) (by omega))))
        go_wp2_with fail
        go_ret
        exact ⟨rfl, ⟨bb.out.os, bb.out.tape, bb.out.output, bb.out.size, bb.out.block⟩⟩
      · have g1 : ((n1 : Int) != 1) = true := by simp; omega
        have g2 : ((n1 : Int) != 2) = true := by simp; omega
        obtain ⟨x0, x1, x2, x3, x4, x5⟩ := id k0
        go_wp2_with fail
        go_quiet (fail)
        go_wp2_with fail
        go_ret
        exact ⟨rfl, ⟨bb.out.os, bb.out.tape, bb.out.output, bb.out.size, bb.out.block⟩⟩
theorem own : ownKnob Try.prog.godebug = none := by kernel_rfl
theorem laidOut : laidOutB Try.prog = true := by kernel_rfl
set_option maxRecDepth 100000 in
theorem lifted (os : Os) (started : os.Started) (H : Type) (enc : TypeId × Value → H) :
    ReturnsInHanded {} Try.checked os 7 .any (Rows.fnReachOfSpec.pre6 enc Try.prog Try.f7 Rows.fnReachOfRow.domain false) (Rows.fnReachOfSpec.post enc Try.prog Try.f7 false true false false) := by
  refine returnsInHanded_of_change (C := Try.checked) own started (by kernel_rfl) Try.func7
    (ChangeSpec.witness6 (enc := enc) (C := Try.checked) false ⟨#[], #[.slice none 0 0], []⟩ 8 (by kernel_rfl) (by kernel_rfl) (by kernel_rfl) (by kernel_rfl)) ?_
  intro W base args ds gs before hval0 hW hcnd _
  have hval : ∀ (j : Nat) t v, Try.f7.params[j]? = some t → args[j]? = some v → Value.okWide Try.prog W .any base t v := hval0
  have hW' := hW
  obtain ⟨p, q, hA0, hV, rfl, hfz, hnd⟩ := hW
  have hA : DataW.TrodAll enc Try.prog W 0 (fun _ => true) true Try.f7.params.toList args.toList ds p := hA0
  rw [Try.params7] at hA hval
  obtain ⟨v0_, vs0, d0, ds0, p0, q0, hargs, rfl, rfl, h0, r0⟩ := trodAll_cons hA
  obtain ⟨rfl, rfl, rfl⟩ := trodAll_nil r0
  obtain rfl : args = #[v0_] := by cases args; simp_all
  obtain ⟨rfl, rfl⟩ := trodVars_none hV
  obtain ⟨a0, len0, cap0, rfl⟩ := okWide_slice Try.underlying22 (hval 0 22 v0_ rfl rfl)
  have k0 := h0
  have lt0 : ∀ x ∈ p0, x.block < W.heap.size := by obtain ⟨m, hm⟩ := k0; exact DataW.trod_lt m _ _ _ hm
  obtain ⟨z0, w0⟩ : ∃ zs, IsRow .u8 W a0 len0 cap0 zs := by
    obtain ⟨fuel, hf⟩ := h0
    rcases open_ints Try.underlying22 Try.underlying5 (by kernel_rfl) hf with ⟨hcs, _⟩ | ⟨x, l, c, zs, hcs, _, hl, hm, hz, _, hcell, hwz⟩
    · simp [Value.cells] at hcs
      obtain ⟨rfl, rfl, rfl⟩ := hcs
      exact ⟨[], .inl ⟨rfl, rfl, rfl, rfl⟩⟩
    · simp [Value.cells] at hcs
      obtain ⟨rfl, rfl, rfl⟩ := hcs
      exact ⟨zs, .inr ⟨_, rfl, hl, hm, by simpa using hz, hcell, hwz⟩⟩
  clear hA0 hval0
  refine (walk a0 len0 cap0 z0 W w0).mono fun e W' ⟨he, bel⟩ => ?_
  subst he
  exact ⟨_, rfl, _, _, _, [], _, [], hW', trodAll_mk1 (shut_bool Try.underlying4 _), (trodAll_cons_mk (Below.trod laidOut (by kernel_rfl) (of_decide_eq_true (by kernel_rfl)) k0 bel lt0) trodAll_mk0), rfl, bel.frame _, fun h => by cases h⟩
theorem over : Rows.fnReachOfRow.holds Try.pinned (OpenSpec.ofChange Rows.fnReachOfSpec) :=
  OpenClaim.holds_of_wide 7 Try.f7 rfl rfl rfl rfl rfl rfl rfl ⟨rfl, rfl, rfl, rfl, rfl⟩ rfl rfl rfl rfl rfl (by kernel_rfl) Try.func7 (by kernel_rfl)
    (of_decide_eq_true (by kernel_rfl)) (by unfold Func.isWrapper; first | (rw [if_pos (by decide +kernel)]; kernel_rfl) | (rw [if_neg (by decide +kernel)]; exact ⟨rfl, rfl⟩))
    (fun os started H enc _ => lifted os started H enc)
theorem proved : Rows.FnReachOfSaid := over
#print axioms proved
end Go.Proofs.Ytnkjnphmpembaaa.fnReachOf
