/- Proves that the law FnMoveTime returns true for every input. Conditions: none. -/
import Derived.Test.YtnkjnphmpembaaaRows
import Derived.Test.YtnkjnphmpembaaaDraws
import Derived.Test.YtnkjnphmpembaaaMove
import Derived.Test.YtnkjnphmpembaaaAlive
import Derived.ChangeOld
import Derived.ShutString
import Derived.Lib.SmallJoins
import Derived.Deep.RegionHeld3
import Derived.Deep.DeepCutAuto
import Derived.Deep.CutBlock
namespace Go.Proofs.Ytnkjnphmpembaaa.fnMoveTime
open Go.ChangeShapes Go.WideShapes Go.ChangeAt Go.RowKit
set_option linter.unusedVariables false
theorem M.moveOk_symm (l lo hi f t : List Int) (top rise : Int) : M.moveOk l lo hi f t top rise = M.moveOk l lo hi t f top rise := by
  unfold M.moveOk
  cases M.jointsB l lo hi f <;> cases M.jointsB l lo hi t <;> simp
theorem M.mtime_symm (l lo hi f t : List Int) (top rise : Int) : M.mtime l lo hi t f top rise = M.mtime l lo hi f t top rise := by
  unfold M.mtime
  rw [← M.moveOk_symm]
  by_cases h : M.moveOk l lo hi f t top rise = true
  · rw [if_pos h, if_pos h]
    obtain ⟨j1, j2, _⟩ := M.mv_true h
    have e1 := (M.joints_bd j1).1.2
    have e2 := (M.joints_bd j2).1.2
    rw [M.mostT_symm, e1, e2]
  · rw [if_neg h, if_neg h]
theorem M.mostT_zero {f t : List Int} : ∀ {k : Nat}, M.mostT f t k ≤ 0 → ∀ i, i < k → f.getD i 0 = t.getD i 0 := by
  intro k
  induction k with
  | zero => intro _ i hi; omega
  | succ k ih =>
    intro h i hi
    unfold M.mostT at h
    rcases Nat.lt_or_ge i k with e | e
    · exact ih (by omega) i e
    · obtain rfl : i = k := by omega
      omega
theorem M.mostT_same (f : List Int) : ∀ k, M.mostT f f k = 0 := by
  intro k
  induction k with
  | zero => rfl
  | succ k ih => unfold M.mostT; rw [ih]; omega
theorem M.mostT_nonneg (f t : List Int) : ∀ k, 0 ≤ M.mostT f t k := by
  intro k
  induction k with
  | zero => exact Int.le_refl _
  | succ k ih => unfold M.mostT; omega
/-- no time is taken just between equal angles -/
theorem M.mtime_zero {l lo hi f t : List Int} {top rise : Int} (h : 0 ≤ M.mtime l lo hi f t top rise) : decide (M.mtime l lo hi f t top rise = 0) = decide (f = t) := by
  by_cases hk : M.moveOk l lo hi f t top rise = true
  · rw [← M.mtime_yes hk]
    obtain ⟨j1, j2, lim⟩ := M.mv_true hk
    obtain ⟨⟨_, e1⟩, v1⟩ := M.joints_bd j1
    obtain ⟨⟨_, e2⟩, v2⟩ := M.joints_bd j2
    obtain ⟨b1, b2⟩ := M.mostT_bd (f := f) (t := t) (B := 180) (by omega) (k := f.length) (fun i hi => ⟨(v1 i hi).1, (v1 i hi).2, (v2 i (by omega)).1, (v2 i (by omega)).2⟩)
    obtain ⟨_, _, p1, p2⟩ := M.prof_facts (d := M.mostT f t f.length) (t := top) (r := rise) ⟨⟨b1, by omega⟩, lim⟩
    by_cases e : f = t
    · subst e
      rw [decide_eq_true (rfl : f = f), decide_eq_true_iff]
      rw [M.mostT_same] at p1 ⊢
      omega
    · rw [decide_eq_false e, decide_eq_false_iff_not]
      intro h0
      apply e
      rw [h0] at p2
      have hz := M.mostT_zero (k := f.length) (show M.mostT f t f.length ≤ 0 by simpa using p2)
      apply List.ext_getElem (by omega)
      intro i h1 h2
      have := hz i h1
      rwa [List.getD_eq_getElem?_getD, List.getD_eq_getElem?_getD, List.getElem?_eq_getElem h1, List.getElem?_eq_getElem h2] at this
  · have := M.mtime_no (Bool.eq_false_iff.2 hk)
    omega
set_option maxRecDepth 20000 in
set_option maxHeartbeats 8000000 in
theorem walk (a0 : Option Addr) (len0 cap0 : Nat) (z0 : List Int) (w : World) (w0 : IsRow .u8 w a0 len0 cap0 z0) :
    Calls Try.prog 12 #[.slice a0 len0 cap0] w fun e w' => e = .returned (.bool true) ∧ Below w.heap.size w w' := by
  by_cases hlen : (1048576 : Int) < len0
  · go_enter Try.func12, Try.ntmps12
    go_wp2
    go_ret
    exact ⟨rfl, Below.refl _ _⟩
  · go_enter Try.func12, Try.ntmps12
    go_wp2_with fail
    refine (draw_MoveTime a0 len0 cap0 z0 _ w0).mono ?_
    rintro e w1 ⟨a1, n1, c1, a2, n2, c2, a3, n3, c3, l, lo, hi, af, nf, cf, f, at_, nt, ct, t, top, rise, rfl, hf, hjf, hjt, ⟨⟨tp1, tp2⟩, ⟨rs1, rs2⟩⟩, q⟩
    have bb := Lib.hid q
    clear w0 hlen q
    obtain ⟨h1, h2, h3⟩ := hf.len
    obtain ⟨m1, m2, m3⟩ := hf.le
    obtain ⟨cp1, cp3⟩ := hf.cap
    have hr := Lib.hid hf.row
    have hr1 := hr
    have bc := Lib.hid (Below.refl w1.heap.size w1)
    have hq1 := bb
    have hf4 := hjf.len
    have hf6 := hjf.le
    have hff := Lib.hid hjf.s.row
    have ht4 := hjt.len
    have ht6 := hjt.le
    have htt := Lib.hid hjt.s.row
    clear hjf hjt
    replace hf4 := Lib.hid hf4
    replace ht4 := Lib.hid ht4
    replace h1 := Lib.hid h1
    replace h2 := Lib.hid h2
    replace h3 := Lib.hid h3
    clear hf
    have hsy := Lib.hid (M.mtime_symm l lo hi f t top rise)
    have hze := Lib.hid (fun h => M.mtime_zero (l := l) (lo := lo) (hi := hi) (f := f) (t := t) (top := top) (rise := rise) h)
    generalize hN : M.mtime l lo hi f t top rise = N at *
    replace hN := Lib.hid hN
    go_wp2_with fail
    have k0 := Cell3.new w1 (.slice a1 n1 c1) (.slice a2 n2 c2) (.slice a3 n3 c3) 25
    have hsB : w1.heap.size < (w1.alloc (.cells #[.slice a1 n1 c1, .slice a2 n2 c2, .slice a3 n3 c3] 25)).heap.size := by simp
    replace bb := Lib.hid (bel_after bb.out (bel_new w1 (.cells #[.slice a1 n1 c1, .slice a2 n2 c2, .slice a3 n3 c3] 25)))
    replace hr := Lib.hid (hr.out.after (bel_new w1 (.cells #[.slice a1 n1 c1, .slice a2 n2 c2, .slice a3 n3 c3] 25)))
    replace bc := Lib.hid (bel_after bc.out (bel_new w1 (.cells #[.slice a1 n1 c1, .slice a2 n2 c2, .slice a3 n3 c3] 25)))
    replace hff := Lib.hid (hff.out.after (bel_new w1 (.cells #[.slice a1 n1 c1, .slice a2 n2 c2, .slice a3 n3 c3] 25)))
    replace htt := Lib.hid (htt.out.after (bel_new w1 (.cells #[.slice a1 n1 c1, .slice a2 n2 c2, .slice a3 n3 c3] 25)))
    generalize hK : w1.heap.size = K at k0 ⊢ hsB
    have hKw : w1.heap.size ≤ K := Nat.le_of_eq hK
    clear hK
    generalize w1.alloc (.cells #[.slice a1 n1 c1, .slice a2 n2 c2, .slice a3 n3 c3] 25) = v at *
    obtain ⟨w2, rfl⟩ : ∃ u : World, u = v := ⟨_, rfl⟩
    refine (impl_mtime a1 a2 a3 af at_ n1 c1 n2 c2 n3 c3 nf cf nt ct l lo hi f t top rise _ h1.out h2.out h3.out hf4.out ht4.out (by omega) (by omega) (by omega) hr.out hff.out htt.out).mono ?_
    rintro e w3 ⟨rfl, q⟩
    have z3 := q.size
    replace bb := Lib.hid (bel_after bb.out q)
    replace hr := Lib.hid (hr.out.after q)
    replace bc := Lib.hid (bel_after bc.out q)
    replace hff := Lib.hid (hff.out.after q)
    replace htt := Lib.hid (htt.out.after q)
    replace k0 := k0.after q
    clear q
    rw [hN.out]
    obtain ⟨k0x, k0y, k0z, k0u, k0v, k0w⟩ := id k0
    go_wp2_with fail
    clear k0x k0y k0z k0u k0v k0w
    refine (spec_mtime a1 a2 a3 af at_ n1 c1 n2 c2 n3 c3 nf cf nt ct l lo hi f t top rise _ h1.out h2.out h3.out hf4.out ht4.out (by omega) (by omega) (by omega) hr.out hff.out htt.out).mono ?_
    rintro e w4 ⟨rfl, q⟩
    have z4 := q.size
    replace bb := Lib.hid (bel_after bb.out q)
    replace hr := Lib.hid (hr.out.after q)
    replace bc := Lib.hid (bel_after bc.out q)
    replace hff := Lib.hid (hff.out.after q)
    replace htt := Lib.hid (htt.out.after q)
    replace k0 := k0.after q
    clear q
    rw [hN.out]
    by_cases hneg : N < 0
    · have hneg2 := hneg
      obtain ⟨x0, x1, x2, x3, x4, x5⟩ := id k0
      go_wp2_with (go_at_call 16; refine (alive _).mono ?_; rintro e w' ⟨rfl, rfl⟩)
      go_ret
      exact ⟨rfl, bb.out⟩
    · have hz := Lib.hid (hze.out (by omega))
      obtain ⟨k0x, k0y, k0z, k0u, k0v, k0w⟩ := id k0
      go_wp2_with fail
      clear k0x k0y k0z k0u k0v k0w
      refine (impl_mtime a1 a2 a3 at_ af n1 c1 n2 c2 n3 c3 nt ct nf cf l lo hi t f top rise _ h1.out h2.out h3.out ht4.out hf4.out (by omega) (by omega) (by omega) hr.out htt.out hff.out).mono ?_
      rintro e w5 ⟨rfl, q⟩
      have z5 := q.size
      replace bb := Lib.hid (bel_after bb.out q)
      replace hr := Lib.hid (hr.out.after q)
      replace bc := Lib.hid (bel_after bc.out q)
      replace hff := Lib.hid (hff.out.after q)
      replace htt := Lib.hid (htt.out.after q)
      replace k0 := k0.after q
      clear q
      rw [hsy.out]
      obtain ⟨k0x, k0y, k0z, k0u, k0v, k0w⟩ := id k0
      go_wp2_with fail
      clear k0x k0y k0z k0u k0v k0w
      refine (same_ints af at_ nf nt cf ct 0 f t _ hf4.out ht4.out (by omega) hff.out htt.out).mono ?_
      rintro e w6 ⟨rfl, q⟩
      have z6 := q.size
      replace bb := Lib.hid (bel_after bb.out q)
      replace hr := Lib.hid (hr.out.after q)
      replace bc := Lib.hid (bel_after bc.out q)
      replace hff := Lib.hid (hff.out.after q)
      replace htt := Lib.hid (htt.out.after q)
      replace k0 := k0.after q
      clear q
      rw [← hz.out]
      obtain ⟨x0, x1, x2, x3, x4, x5⟩ := id k0
      go_wp2_with fail
      go_ret
      exact ⟨ret_bool (by cases hd : decide (N = 0) <;> simp_all), bb.out⟩
theorem own : ownKnob Try.prog.godebug = none := by kernel_rfl
theorem laidOut : laidOutB Try.prog = true := by kernel_rfl
set_option maxRecDepth 100000 in
theorem lifted (os : Os) (started : os.Started) (H : Type) (enc : TypeId × Value → H) :
    ReturnsInHanded {} Try.checked os 12 .any (Rows.fnMoveTimeSpec.pre6 enc Try.prog Try.f12 Rows.fnMoveTimeRow.domain false) (Rows.fnMoveTimeSpec.post enc Try.prog Try.f12 false true false false) := by
  refine returnsInHanded_of_change (C := Try.checked) own started (by kernel_rfl) Try.func12
    (ChangeSpec.witness6 (enc := enc) (C := Try.checked) false ⟨#[], #[.slice none 0 0], []⟩ 8 (by kernel_rfl) (by kernel_rfl) (by kernel_rfl) (by kernel_rfl)) ?_
  intro W base args ds gs before hval0 hW hcnd _
  have hval : ∀ (j : Nat) t v, Try.f12.params[j]? = some t → args[j]? = some v → Value.okWide Try.prog W .any base t v := hval0
  have hW' := hW
  obtain ⟨p, q, hA0, hV, rfl, hfz, hnd⟩ := hW
  have hA : DataW.TrodAll enc Try.prog W 0 (fun _ => true) true Try.f12.params.toList args.toList ds p := hA0
  rw [Try.params12] at hA hval
  obtain ⟨v0_, vs0, d0, ds0, p0, q0, hargs, rfl, rfl, h0, r0⟩ := trodAll_cons hA
  obtain ⟨rfl, rfl, rfl⟩ := trodAll_nil r0
  obtain rfl : args = #[v0_] := by cases args; simp_all
  obtain ⟨rfl, rfl⟩ := trodVars_none hV
  obtain ⟨a0, len0, cap0, rfl⟩ := okWide_slice Try.underlying22 (hval 0 22 v0_ rfl rfl)
  have k0 := h0
  have lt0 : ∀ x ∈ p0, x.block < W.heap.size := by obtain ⟨m, hm⟩ := k0; exact DataW.trod_lt m _ _ _ hm
  obtain ⟨z0, w0⟩ : ∃ zs, IsRow .u8 W a0 len0 cap0 zs := by
    obtain ⟨fuel, hf⟩ := h0
    rcases open_ints Try.underlying22 Try.underlying5 (by kernel_rfl) hf with ⟨hcs, _⟩ | ⟨x, l, c, zs, hcs, _, hl, hm, hz, _, hcell, hwz⟩
    · simp [Value.cells] at hcs
      obtain ⟨rfl, rfl, rfl⟩ := hcs
      exact ⟨[], .inl ⟨rfl, rfl, rfl, rfl⟩⟩
    · simp [Value.cells] at hcs
      obtain ⟨rfl, rfl, rfl⟩ := hcs
      exact ⟨zs, .inr ⟨_, rfl, hl, hm, by simpa using hz, hcell, hwz⟩⟩
  clear hA0 hval0
  refine (walk a0 len0 cap0 z0 W w0).mono fun e W' ⟨he, bel⟩ => ?_
  subst he
  exact ⟨_, rfl, _, _, _, [], _, [], hW', trodAll_mk1 (shut_bool Try.underlying4 _), (trodAll_cons_mk (Below.trod laidOut (by kernel_rfl) (of_decide_eq_true (by kernel_rfl)) k0 bel lt0) trodAll_mk0), rfl, bel.frame _, fun h => by cases h⟩
theorem over : Rows.fnMoveTimeRow.holds Try.pinned (OpenSpec.ofChange Rows.fnMoveTimeSpec) :=
  OpenClaim.holds_of_wide 12 Try.f12 rfl rfl rfl rfl rfl rfl rfl ⟨rfl, rfl, rfl, rfl, rfl⟩ rfl rfl rfl rfl rfl (by kernel_rfl) Try.func12 (by kernel_rfl)
    (of_decide_eq_true (by kernel_rfl)) (by unfold Func.isWrapper; first | (rw [if_pos (by decide +kernel)]; kernel_rfl) | (rw [if_neg (by decide +kernel)]; exact ⟨rfl, rfl⟩))
    (fun os started H enc _ => lifted os started H enc)
theorem proved : Rows.FnMoveTimeSaid := over
#print axioms proved
end Go.Proofs.Ytnkjnphmpembaaa.fnMoveTime
