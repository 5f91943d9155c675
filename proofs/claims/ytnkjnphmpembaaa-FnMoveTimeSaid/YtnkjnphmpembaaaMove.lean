/- Contracts of the time of a coordinated motion, in both packages. -/
import Derived.Test.YtnkjnphmpembaaaClone
import Derived.Test.YtnkjnphmpembaaaProf
import Derived.StillTailTactics
import Derived.Deep.RegionHeld3
namespace Go.Proofs.Ytnkjnphmpembaaa
open Go.ChangeShapes Go.WideShapes Go.ChangeAt Go.RowKit
set_option linter.unusedVariables false
/-- the greatest absolute difference of the first k angles -/
def M.mostT (f t : List Int) : Nat → Int
  | 0 => 0
  | k + 1 => max (M.mostT f t k) (max (f.getD k 0 - t.getD k 0) (t.getD k 0 - f.getD k 0))
theorem M.mostT_symm (f t : List Int) : ∀ k, M.mostT f t k = M.mostT t f k := by
  intro k
  induction k with
  | zero => rfl
  | succ k ih => unfold M.mostT; rw [ih]; omega
theorem M.mostT_bd {f t : List Int} {B : Int} (hB : 0 ≤ B) : ∀ {k : Nat}, (∀ i, i < k → -B ≤ f.getD i 0 ∧ f.getD i 0 ≤ B ∧ -B ≤ t.getD i 0 ∧ t.getD i 0 ≤ B) → 0 ≤ M.mostT f t k ∧ M.mostT f t k ≤ 2 * B := by
  intro k
  induction k with
  | zero => intro _; unfold M.mostT; omega
  | succ k ih =>
    intro h
    have h1 := ih (fun i hi => h i (by omega))
    have h2 := h k (by omega)
    unfold M.mostT
    omega
def M.okLim2 (top rise : Int) : Prop := (1 ≤ top ∧ top ≤ 200) ∧ (1 ≤ rise ∧ rise ≤ 50)
def M.moveOk (l lo hi f t : List Int) (top rise : Int) : Bool := M.jointsB l lo hi f && (M.jointsB l lo hi t && decide ((1 ≤ top ∧ top ≤ 200) ∧ (1 ≤ rise ∧ rise ≤ 50)))
theorem M.mv_f {l lo hi f t : List Int} {top rise : Int} (h : M.jointsB l lo hi f = false) : M.moveOk l lo hi f t top rise = false := by unfold M.moveOk; rw [h]; rfl
theorem M.mv_t {l lo hi f t : List Int} {top rise : Int} (h : M.jointsB l lo hi t = false) : M.moveOk l lo hi f t top rise = false := by unfold M.moveOk; rw [h]; simp
theorem M.mv_l {l lo hi f t : List Int} {top rise : Int} (h : ¬ ((1 ≤ top ∧ top ≤ 200) ∧ (1 ≤ rise ∧ rise ≤ 50))) : M.moveOk l lo hi f t top rise = false := by unfold M.moveOk; rw [decide_eq_false h]; simp
theorem M.mv_y {l lo hi f t : List Int} {top rise : Int} (h1 : M.jointsB l lo hi f = true) (h2 : M.jointsB l lo hi t = true) (h : (1 ≤ top ∧ top ≤ 200) ∧ (1 ≤ rise ∧ rise ≤ 50)) : M.moveOk l lo hi f t top rise = true := by unfold M.moveOk; rw [h1, h2, decide_eq_true h]; rfl
theorem M.mv_true {l lo hi f t : List Int} {top rise : Int} (h : M.moveOk l lo hi f t top rise = true) : M.jointsB l lo hi f = true ∧ M.jointsB l lo hi t = true ∧ ((1 ≤ top ∧ top ≤ 200) ∧ (1 ≤ rise ∧ rise ≤ 50)) := by
  unfold M.moveOk at h
  rw [Bool.and_eq_true, Bool.and_eq_true] at h
  exact ⟨h.1, h.2.1, of_decide_eq_true h.2.2⟩
/-- the number of rows, with its refusal -/
def M.mtime (l lo hi f t : List Int) (top rise : Int) : Int := if M.moveOk l lo hi f t top rise = true then ((M.prof (M.mostT f t f.length) top rise).length : Int) else -1
theorem M.mtime_no {l lo hi f t : List Int} {top rise : Int} (h : M.moveOk l lo hi f t top rise = false) : -1 = M.mtime l lo hi f t top rise := by unfold M.mtime; rw [h]; rfl
theorem M.mtime_yes {l lo hi f t : List Int} {top rise : Int} (h : M.moveOk l lo hi f t top rise = true) : ((M.prof (M.mostT f t f.length) top rise).length : Int) = M.mtime l lo hi f t top rise := by unfold M.mtime; rw [if_pos h]
/-- valid angles are between -180 and 180 -/
theorem M.joints_bd {l lo hi j : List Int} (h : M.jointsB l lo hi j = true) : ((1 ≤ j.length ∧ j.length ≤ 4) ∧ j.length = l.length) ∧ ∀ i, i < j.length → -180 ≤ j.getD i 0 ∧ j.getD i 0 ≤ 180 := by
  obtain ⟨ha, hl, hj⟩ := M.joints_true h
  obtain ⟨⟨⟨e1, e2⟩, e3, e4⟩, hv⟩ := M.armB_true ha
  refine ⟨⟨by omega, hl⟩, fun i hi => ?_⟩
  have := hj i hi
  have := hv i (by omega)
  omega
theorem M.tdiv_bd2 {n d B : Int} (hd : 0 < d) (h1 : -B ≤ n) (h2 : n ≤ B) : -B ≤ n.tdiv d ∧ n.tdiv d ≤ B := by
  rcases Int.lt_or_le n 0 with hn | hn
  · have e2 : n.tdiv d = -((-n) / d) := by
      have := Int.neg_tdiv (-n) d
      rw [Int.neg_neg] at this
      rw [this, Int.tdiv_eq_ediv_of_nonneg (by omega)]
    have := Int.ediv_le_self d (show 0 ≤ -n by omega)
    have := Int.ediv_nonneg (show 0 ≤ -n by omega) (show 0 ≤ d by omega)
    omega
  · have := Int.ediv_le_self d hn
    have := Int.ediv_nonneg hn (show 0 ≤ d by omega)
    rw [Int.tdiv_eq_ediv_of_nonneg hn]
    omega
theorem M.mul_bd2 {a b A B : Int} (h1 : -A ≤ a) (h2 : a ≤ A) (h3 : 0 ≤ b) (h4 : b ≤ B) (hA : 0 ≤ A) : -(A * B) ≤ a * b ∧ a * b ≤ A * B := by
  have e1 : a * b ≤ A * b := Int.mul_le_mul_of_nonneg_right h2 h3
  have e2 : A * b ≤ A * B := Int.mul_le_mul_of_nonneg_left h4 hA
  have e3 : -A * b ≤ a * b := Int.mul_le_mul_of_nonneg_right h1 h3
  rw [Int.neg_mul] at e3
  omega
set_option maxHeartbeats 2000000 in
theorem l6_most (a1 a2 : Option Addr) (n c1 c2 n2 : Nat) (f t : List Int) (w : World) (h1 : f.length = n) (h2 : t.length = n2) (hn : n2 = n) (hm : n ≤ 1000000000) (hb : ∀ i, i < n → -180 ≤ f.getD i 0 ∧ f.getD i 0 ≤ 180 ∧ -180 ≤ t.getD i 0 ∧ t.getD i 0 ≤ 180) (hr1 : Row w w.heap.size a1 f) (hr2 : Row w w.heap.size a2 t) :
    Calls Try.prog 53 #[.slice a1 n c1, .slice a2 n2 c2] w fun e w' => e = .returned (.int .i64 (M.mostT f t n)) ∧ Below w.heap.size w w' := by
  subst hn
  replace h1 := Lib.hid h1
  replace h2 := Lib.hid h2
  replace hb := Lib.hid hb
  replace hr1 := Lib.hid hr1
  replace hr2 := Lib.hid hr2
  go_enter Try.func53, Try.ntmps53
  go_wp2_with fail
  go_loopw [5, 6] (fun q i wr => ∃ k : Nat, i = .int .i64 k ∧ k ≤ n2 ∧ q = .int .i64 (M.mostT f t k) ∧ Hid (Below w.heap.size w wr)) (fun _ i _ => n2 - (intOf i).toNat)
  case atStart => exact ⟨0, rfl, Nat.zero_le _, rfl, Below.refl _ _⟩
  case round =>
    obtain ⟨k, rfl, hk, rfl, hbb⟩ := hrel
    by_cases hlt : k < n2
    · obtain ⟨b1, o1, rfl⟩ := hr1.out.form (by rw [h1.out]; omega)
      obtain ⟨b2, o2, rfl⟩ := hr2.out.form (by rw [h2.out]; omega)
      have y1 := hr1.out.cell hbb.out (k := k) (by rw [h1.out]; omega)
      have y2 := hr2.out.cell hbb.out (k := k) (by rw [h2.out]; omega)
      obtain ⟨u1, u2, u3, u4⟩ := hb.out k hlt
      obtain ⟨u5, u6⟩ := M.mostT_bd (f := f) (t := t) (B := 180) (by omega) (k := k) (fun i hi => hb.out i (by omega))
      have hs := Lib.hid (show M.mostT f t (k + 1) = max (M.mostT f t k) (max (f.getD k 0 - t.getD k 0) (t.getD k 0 - f.getD k 0)) from rfl)
      generalize f.getD k 0 = x at *
      generalize t.getD k 0 = y at *
      generalize hq : M.mostT f t k = q at *
      clear hq
      have hk4 : (k : Int) < (n2 : Int) := by omega
      have e1 : IntKind.i64.wrap (x - y) = x - y := IntWalk.i64_in _ (by omega)
      have e2 : IntKind.i64.wrap (y - x) = y - x := IntWalk.i64_in _ (by omega)
      go_wp2_with fail
      by_cases c1 : x - y < y - x
      · by_cases c2 : q < y - x
        · go_quiet (fail)
          go_wp2_with fail
          go_roundw
          case rel => exact ⟨k + 1, by go_num, by omega, by rw [hs.out]; go_num, ⟨hbb.out.os, hbb.out.tape, hbb.out.output, hbb.out.size, hbb.out.block⟩⟩
          case measure => simp [intOf]; omega
        · go_quiet (fail)
          go_wp2_with fail
          go_roundw
          case rel => exact ⟨k + 1, by go_num, by omega, by rw [hs.out]; go_num, ⟨hbb.out.os, hbb.out.tape, hbb.out.output, hbb.out.size, hbb.out.block⟩⟩
          case measure => simp [intOf]; omega
      · by_cases c2 : q < x - y
        · go_quiet (fail)
          go_wp2_with fail
          go_roundw
          case rel => exact ⟨k + 1, by go_num, by omega, by rw [hs.out]; go_num, ⟨hbb.out.os, hbb.out.tape, hbb.out.output, hbb.out.size, hbb.out.block⟩⟩
          case measure => simp [intOf]; omega
        · go_quiet (fail)
          go_wp2_with fail
          go_roundw
          case rel => exact ⟨k + 1, by go_num, by omega, by rw [hs.out]; go_num, ⟨hbb.out.os, hbb.out.tape, hbb.out.output, hbb.out.size, hbb.out.block⟩⟩
          case measure => simp [intOf]; omega
    · obtain rfl : k = n2 := by omega
      go_wp2_with fail
      go_ret
      exact ⟨rfl, hbb.out⟩
set_option maxHeartbeats 4000000 in
theorem l6_ok (a1 a2 a3 af at_ : Option Addr) (n1 c1 n2 c2 n3 c3 mf cf mt ct : Nat) (l lo hi f t : List Int) (top rise : Int) (w : World) (h1 : l.length = n1) (h2 : lo.length = n2) (h3 : hi.length = n3) (h4 : f.length = mf) (h5 : t.length = mt) (hm : n1 ≤ 1000000000 ∧ n2 ≤ 1000000000 ∧ n3 ≤ 1000000000) (hm4 : mf ≤ 1000000000) (hm5 : mt ≤ 1000000000) (hr : ArmAt w w.heap.size a1 a2 a3 l lo hi) (hf : Row w w.heap.size af f) (ht : Row w w.heap.size at_ t) :
    Calls Try.prog 51 #[.agg #[.slice a1 n1 c1, .slice a2 n2 c2, .slice a3 n3 c3], .slice af mf cf, .slice at_ mt ct, .int .i64 top, .int .i64 rise] w fun e w' => e = .returned (.bool (M.moveOk l lo hi f t top rise)) ∧ Below w.heap.size w w' := by
  obtain ⟨m1, m2, m3⟩ := hm
  replace h1 := Lib.hid h1
  replace h2 := Lib.hid h2
  replace h3 := Lib.hid h3
  replace h4 := Lib.hid h4
  replace h5 := Lib.hid h5
  replace hr := Lib.hid hr
  replace hf := Lib.hid hf
  replace ht := Lib.hid ht
  have bb := Lib.hid (Below.refl w.heap.size w)
  have k0 := Cell3.new w (.slice a1 n1 c1) (.slice a2 n2 c2) (.slice a3 n3 c3) 25
  replace bb := Lib.hid (bel_after bb.out (bel_new w (.cells #[.slice a1 n1 c1, .slice a2 n2 c2, .slice a3 n3 c3] 25)))
  replace hr := Lib.hid (hr.out.after (bel_new w (.cells #[.slice a1 n1 c1, .slice a2 n2 c2, .slice a3 n3 c3] 25)))
  replace hf := Lib.hid (hf.out.after (bel_new w (.cells #[.slice a1 n1 c1, .slice a2 n2 c2, .slice a3 n3 c3] 25)))
  replace ht := Lib.hid (ht.out.after (bel_new w (.cells #[.slice a1 n1 c1, .slice a2 n2 c2, .slice a3 n3 c3] 25)))
  go_enter Try.func51, Try.ntmps51
  obtain ⟨x0, x1, x2, x3, x4, x5⟩ := id k0
  go_wp2_with fail
  clear x0 x1 x2 x3 x4 x5
  refine (spec_joints a1 a2 a3 af n1 c1 n2 c2 n3 c3 mf cf l lo hi f _ h1.out h2.out h3.out h4.out ⟨m1, m2, m3⟩ (by omega) hr.out hf.out).mono ?_
  rintro e wf ⟨rfl, q⟩
  replace k0 := k0.after q
  replace bb := Lib.hid (bel_after bb.out q)
  replace hr := Lib.hid (hr.out.after q)
  replace hf := Lib.hid (hf.out.after q)
  replace ht := Lib.hid (ht.out.after q)
  clear q
  cases hB : M.jointsB l lo hi f
  · have hfin := Lib.hid (M.mv_f (t := t) (top := top) (rise := rise) hB)
    clear hB
    obtain ⟨x0, x1, x2, x3, x4, x5⟩ := id k0
    go_wp2_with fail
    clear x0 x1 x2 x3 x4 x5
    go_ret
    exact ⟨ret_bool hfin.out.symm, bb.out⟩
  · replace hB := Lib.hid hB
    obtain ⟨x0, x1, x2, x3, x4, x5⟩ := id k0
    go_wp2_with fail
    clear x0 x1 x2 x3 x4 x5
    refine (spec_joints a1 a2 a3 at_ n1 c1 n2 c2 n3 c3 mt ct l lo hi t _ h1.out h2.out h3.out h5.out ⟨m1, m2, m3⟩ (by omega) hr.out ht.out).mono ?_
    rintro e wt ⟨rfl, q⟩
    replace k0 := k0.after q
    replace bb := Lib.hid (bel_after bb.out q)
    replace hr := Lib.hid (hr.out.after q)
    replace hf := Lib.hid (hf.out.after q)
    replace ht := Lib.hid (ht.out.after q)
    clear q
    cases hB2 : M.jointsB l lo hi t
    · have hfin := Lib.hid (M.mv_t (f := f) (top := top) (rise := rise) hB2)
      clear hB2
      obtain ⟨x0, x1, x2, x3, x4, x5⟩ := id k0
      go_wp2_with fail
      clear x0 x1 x2 x3 x4 x5
      go_ret
      exact ⟨ret_bool hfin.out.symm, bb.out⟩
    · replace hB2 := Lib.hid hB2
      by_cases ht1 : 1 ≤ top ∧ top ≤ 200
      · by_cases ht2 : 1 ≤ rise ∧ rise ≤ 50
        · have hfin := Lib.hid (M.mv_y hB.out hB2.out ⟨ht1, ht2⟩)
          obtain ⟨x0, x1, x2, x3, x4, x5⟩ := id k0
          go_wp2_with (first | (go_at_call 43; refine (l1In_yes _ _ _ _ (by omega) (by omega)).mono ?_; rintro e w' ⟨rfl, rfl⟩) | (go_at_call 43; refine (l1In_no _ _ _ _ (by omega)).mono ?_; rintro e w' ⟨rfl, rfl⟩))
          go_ret
          exact ⟨ret_bool hfin.out.symm, bb.out⟩
        · have hfin := Lib.hid (M.mv_l (l := l) (lo := lo) (hi := hi) (f := f) (t := t) (top := top) (rise := rise) (fun h => ht2 h.2))
          obtain ⟨x0, x1, x2, x3, x4, x5⟩ := id k0
          go_wp2_with (first | (go_at_call 43; refine (l1In_yes _ _ _ _ (by omega) (by omega)).mono ?_; rintro e w' ⟨rfl, rfl⟩) | (go_at_call 43; refine (l1In_no _ _ _ _ (by omega)).mono ?_; rintro e w' ⟨rfl, rfl⟩))
          go_ret
          exact ⟨ret_bool hfin.out.symm, bb.out⟩
      · have hfin := Lib.hid (M.mv_l (l := l) (lo := lo) (hi := hi) (f := f) (t := t) (top := top) (rise := rise) (fun h => ht1 h.1))
        obtain ⟨x0, x1, x2, x3, x4, x5⟩ := id k0
        go_wp2_with (first | (go_at_call 43; refine (l1In_yes _ _ _ _ (by omega) (by omega)).mono ?_; rintro e w' ⟨rfl, rfl⟩) | (go_at_call 43; refine (l1In_no _ _ _ _ (by omega)).mono ?_; rintro e w' ⟨rfl, rfl⟩))
        go_ret
        exact ⟨ret_bool hfin.out.symm, bb.out⟩
set_option maxHeartbeats 4000000 in
theorem spec_mtime (a1 a2 a3 af at_ : Option Addr) (n1 c1 n2 c2 n3 c3 mf cf mt ct : Nat) (l lo hi f t : List Int) (top rise : Int) (w : World) (h1 : l.length = n1) (h2 : lo.length = n2) (h3 : hi.length = n3) (h4 : f.length = mf) (h5 : t.length = mt) (hm : n1 ≤ 1000000000 ∧ n2 ≤ 1000000000 ∧ n3 ≤ 1000000000) (hm4 : mf ≤ 1000000000) (hm5 : mt ≤ 1000000000) (hr : ArmAt w w.heap.size a1 a2 a3 l lo hi) (hf : Row w w.heap.size af f) (ht : Row w w.heap.size at_ t) :
    Calls Try.prog 36 #[.agg #[.slice a1 n1 c1, .slice a2 n2 c2, .slice a3 n3 c3], .slice af mf cf, .slice at_ mt ct, .int .i64 top, .int .i64 rise] w fun e w' => e = .returned (.int .i64 (M.mtime l lo hi f t top rise)) ∧ Below w.heap.size w w' := by
  obtain ⟨m1, m2, m3⟩ := hm
  replace h1 := Lib.hid h1
  replace h2 := Lib.hid h2
  replace h3 := Lib.hid h3
  replace h4 := Lib.hid h4
  replace h5 := Lib.hid h5
  replace hr := Lib.hid hr
  replace hf := Lib.hid hf
  replace ht := Lib.hid ht
  have bb := Lib.hid (Below.refl w.heap.size w)
  have k0 := Cell3.new w (.slice a1 n1 c1) (.slice a2 n2 c2) (.slice a3 n3 c3) 25
  replace bb := Lib.hid (bel_after bb.out (bel_new w (.cells #[.slice a1 n1 c1, .slice a2 n2 c2, .slice a3 n3 c3] 25)))
  replace hr := Lib.hid (hr.out.after (bel_new w (.cells #[.slice a1 n1 c1, .slice a2 n2 c2, .slice a3 n3 c3] 25)))
  replace hf := Lib.hid (hf.out.after (bel_new w (.cells #[.slice a1 n1 c1, .slice a2 n2 c2, .slice a3 n3 c3] 25)))
  replace ht := Lib.hid (ht.out.after (bel_new w (.cells #[.slice a1 n1 c1, .slice a2 n2 c2, .slice a3 n3 c3] 25)))
  go_enter Try.func36, Try.ntmps36
  obtain ⟨x0, x1, x2, x3, x4, x5⟩ := id k0
  go_wp2_with fail
  clear x0 x1 x2 x3 x4 x5
  refine (l6_ok a1 a2 a3 af at_ n1 c1 n2 c2 n3 c3 mf cf mt ct l lo hi f t top rise _ h1.out h2.out h3.out h4.out h5.out ⟨m1, m2, m3⟩ (by omega) (by omega) hr.out hf.out ht.out).mono ?_
  rintro e wo ⟨rfl, q⟩
  replace k0 := k0.after q
  replace bb := Lib.hid (bel_after bb.out q)
  replace hr := Lib.hid (hr.out.after q)
  replace hf := Lib.hid (hf.out.after q)
  replace ht := Lib.hid (ht.out.after q)
  clear q
  cases hB : M.moveOk l lo hi f t top rise
  · have hfin := Lib.hid (M.mtime_no hB)
    clear hB
    obtain ⟨x0, x1, x2, x3, x4, x5⟩ := id k0
    go_wp2_with fail
    clear x0 x1 x2 x3 x4 x5
    go_ret
    exact ⟨ret_int hfin.out, bb.out⟩
  · obtain ⟨j1, j2, j3⟩ := M.mv_true hB
    have hfin := Lib.hid (M.mtime_yes hB)
    obtain ⟨⟨⟨e1, e2⟩, e3⟩, v1⟩ := M.joints_bd j1
    obtain ⟨⟨⟨e4, e5⟩, e6⟩, v2⟩ := M.joints_bd j2
    have hlen : mt = mf := by rw [h4.out] at e3; rw [h5.out] at e6; omega
    rw [h4.out] at hfin v1 e1 e2
    rw [h5.out, hlen] at v2
    have hl4 := Lib.hid hlen
    have hp := M.prof_len (M.mostT f t mf) top rise
    replace v1 := Lib.hid v1
    replace v2 := Lib.hid v2
    clear hB j1 j2 e3 e4 e5 e6 hlen
    obtain ⟨x0, x1, x2, x3, x4, x5⟩ := id k0
    go_wp2_with fail
    clear x0 x1 x2 x3 x4 x5
    refine (l6_most af at_ mf cf ct mt f t _ h4.out h5.out hl4.out (by omega) (fun i hi => ⟨(v1.out i hi).1, (v1.out i hi).2, (v2.out i hi).1, (v2.out i hi).2⟩) hf.out ht.out).mono ?_
    rintro e wm ⟨rfl, q⟩
    replace k0 := k0.after q
    replace bb := Lib.hid (bel_after bb.out q)
    replace hr := Lib.hid (hr.out.after q)
    replace hf := Lib.hid (hf.out.after q)
    replace ht := Lib.hid (ht.out.after q)
    clear q
    obtain ⟨x0, x1, x2, x3, x4, x5⟩ := id k0
    go_wp2_with fail
    clear x0 x1 x2 x3 x4 x5
    refine (spec_prof (M.mostT f t mf) top rise _).mono ?_
    rintro e wp hq
    obtain ⟨x, y, rfl, _, q⟩ := ints_view rfl hq
    replace bb := Lib.hid (bel_after bb.out q)
    clear q hq k0
    go_wp2_with fail
    go_ret
    exact ⟨ret_int hfin.out, bb.out⟩
theorem infoSl : (Try.prog.info? 23).map (fun i => (i.zero, i.size, i.bytes)) = some (some (.slice none 0 0), 1, 24) := by kernel_rfl
/-- a slice of slices that the call owns: its number of rows alone is told -/
def OwnsV (w : World) (B : Nat) (v : Value) (n : Nat) : Prop := ∃ xs, w.ownsRow B 23 1 v n xs
theorem OwnsV.nil (w : World) (B : Nat) : OwnsV w B (.slice none 0 0) 0 := ⟨_, World.ownsRow_nil _ _ _ _⟩
theorem OwnsV.old {w w' : World} {B : Nat} {v : Value} {n : Nat} (h : OwnsV w B v n) (hb : Below w.heap.size w w') : OwnsV w' B v n := by
  obtain ⟨xs, h1, h2⟩ := h
  refine ⟨xs, h1, ?_⟩
  rcases h2 with h2 | ⟨g, cap, cur, e, hg, hh, r⟩
  · exact .inl h2
  · exact .inr ⟨g, cap, cur, e, hg, (hb.block g (Array.getElem?_eq_some_iff.1 hh).1).trans hh, r⟩
theorem OwnsV.form {w : World} {B : Nat} {v : Value} {n : Nat} (h : OwnsV w B v n) : ∃ a cap, v = .slice a n cap := by
  obtain ⟨xs, h1, h2⟩ := h
  rcases h2 with ⟨h2, h3⟩ | ⟨g, cap, cur, e, _⟩
  · exact ⟨none, 0, by rw [h2, h3]⟩
  · exact ⟨_, cap, e⟩
/-- as many rows come back as the number says -/
def RowsOut (n : Nat) (w : World) (e : Ending) (w' : World) : Prop := ∃ a cap, e = .returned (.slice a n cap) ∧ Below w.heap.size w w'
theorem rows_ret {n n' : Nat} {w w' : World} {a : Option Addr} {cap : Nat} (h : n' = n) (hb : Below w.heap.size w w') : RowsOut n w (.returned (.slice a n' cap)) w' := ⟨a, cap, by rw [h], hb⟩
theorem slice_new (w : World) (v : Value) (t : TypeId) : ∀ j u, [v][j]? = some u → (w.alloc (.cells #[v] t)).cell? ((⟨w.heap.size, 0, none⟩ : Addr).add j) = some u := by
  intro j u hj
  match j, hj with
  | 0, hj =>
    simp at hj; subst hj
    have hh : (w.alloc (.cells #[v] t)).heap[w.heap.size]? = some (.cells #[v] t) := by
      show (w.heap.push _)[w.heap.size]? = _
      rw [Array.getElem?_push, if_pos rfl]
    show World.cell? _ ⟨w.heap.size, 0, none⟩ = _
    unfold World.cell?; rw [hh]; rfl
theorem slice_one (a : Option Addr) (n c : Nat) : ∀ u ∈ [Value.slice a n c], u.oneCell' = true := by intro u hu; simp at hu; subst hu; rfl
theorem getD_mid {X f : List Int} {k : Nat} (h : X.length = k) : (X ++ f.drop k).getD k 0 = f.getD k 0 := by
  rw [List.getD_eq_getElem?_getD, List.getElem?_append_right (by omega), h, Nat.sub_self, List.getElem?_drop, List.getD_eq_getElem?_getD]; rfl
theorem set_mid {X f : List Int} {k : Nat} (h : X.length = k) (hk : k < f.length) (y : Int) : (X ++ f.drop k).set k y = (X ++ [y]) ++ f.drop (k + 1) := by
  rw [List.set_append_right _ _ (by omega), h, Nat.sub_self, List.drop_eq_getElem_cons hk, List.set_cons_zero, List.append_assoc]; rfl
theorem passed_bd {P v : Int} {k : Nat} (h0 : 0 ≤ P) (h1 : P ≤ 200 * k) (h2 : 1 ≤ v) (h3 : v ≤ 200) : 0 ≤ P + v ∧ P + v ≤ 200 * ((k + 1 : Nat) : Int) := by
  rw [Int.natCast_succ]; omega
set_option maxHeartbeats 8000000 in
theorem impl_mjoints (a1 a2 a3 af at_ : Option Addr) (n1 c1 n2 c2 n3 c3 mf cf mt ct : Nat) (l lo hi f t : List Int) (top rise : Int) (w : World) (h1 : l.length = n1) (h2 : lo.length = n2) (h3 : hi.length = n3) (h4 : f.length = mf) (h5 : t.length = mt) (hm : n1 ≤ 1000000000 ∧ n2 ≤ 1000000000 ∧ n3 ≤ 1000000000) (hm4 : mf ≤ 1000000000) (hm5 : mt ≤ 1000000000) (hr : ArmAt w w.heap.size a1 a2 a3 l lo hi) (hf : Row w w.heap.size af f) (ht : Row w w.heap.size at_ t) (hok : M.moveOk l lo hi f t top rise = true) :
    Calls Try.prog 55 #[.agg #[.slice a1 n1 c1, .slice a2 n2 c2, .slice a3 n3 c3], .slice af mf cf, .slice at_ mt ct, .int .i64 top, .int .i64 rise] w (RowsOut (M.prof (M.mostT f t f.length) top rise).length w) := by
  obtain ⟨i0, hi0, hz0, hz1, hz2⟩ := info_parts infoSl
  obtain ⟨j1, j2, j3⟩ := M.mv_true hok
  clear hok
  obtain ⟨⟨⟨e1, e2⟩, e3⟩, v1⟩ := M.joints_bd j1
  obtain ⟨⟨⟨e4, e5⟩, e6⟩, v2⟩ := M.joints_bd j2
  have hlen : mt = mf := by rw [h4] at e3; rw [h5] at e6; omega
  rw [h4] at v1 e1 e2
  rw [h5, hlen] at v2
  have hl5 : mt ≤ mf := by omega
  have hl6 : mf ≤ mt := by omega
  replace v1 := Lib.hid v1
  replace v2 := Lib.hid v2
  obtain ⟨q1, q2⟩ := M.mostT_bd (f := f) (t := t) (B := 180) (by omega) (k := mf) (fun i hi => ⟨(v1.out i hi).1, (v1.out i hi).2, (v2.out i hi).1, (v2.out i hi).2⟩)
  have hpf := Lib.hid (M.prof_facts (d := M.mostT f t mf) (t := top) (r := rise) ⟨⟨q1, by omega⟩, j3⟩)
  have hp := M.prof_len (M.mostT f t mf) top rise
  have hpb := Lib.hid (M.prof_bd (M.mostT f t mf) top rise)
  rw [h4]
  have hB := Lib.hid j1
  have hB2 := Lib.hid j2
  have hlim := Lib.hid j3
  clear e3 e4 e5 e6 hlen j1 j2 j3
  obtain ⟨m1, m2, m3⟩ := hm
  replace h1 := Lib.hid h1
  replace h2 := Lib.hid h2
  replace h3 := Lib.hid h3
  replace h4 := Lib.hid h4
  replace h5 := Lib.hid h5
  replace hr := Lib.hid hr
  replace hf := Lib.hid hf
  replace ht := Lib.hid ht
  have bb := Lib.hid (Below.refl w.heap.size w)
  have k0 := Cell3.new w (.slice a1 n1 c1) (.slice a2 n2 c2) (.slice a3 n3 c3) 25
  replace bb := Lib.hid (bel_after bb.out (bel_new w (.cells #[.slice a1 n1 c1, .slice a2 n2 c2, .slice a3 n3 c3] 25)))
  replace hr := Lib.hid (hr.out.after (bel_new w (.cells #[.slice a1 n1 c1, .slice a2 n2 c2, .slice a3 n3 c3] 25)))
  replace hf := Lib.hid (hf.out.after (bel_new w (.cells #[.slice a1 n1 c1, .slice a2 n2 c2, .slice a3 n3 c3] 25)))
  replace ht := Lib.hid (ht.out.after (bel_new w (.cells #[.slice a1 n1 c1, .slice a2 n2 c2, .slice a3 n3 c3] 25)))
  go_enter Try.func55, Try.ntmps55
  obtain ⟨x0, x1, x2, x3, x4, x5⟩ := id k0
  go_wp2_with fail
  clear x0 x1 x2 x3 x4 x5
  refine (impl_joints a1 a2 a3 af n1 c1 n2 c2 n3 c3 mf cf l lo hi f _ h1.out h2.out h3.out h4.out ⟨m1, m2, m3⟩ (by omega) hr.out hf.out).mono ?_
  rintro e wf ⟨rfl, q⟩
  replace k0 := k0.after q
  replace bb := Lib.hid (bel_after bb.out q)
  replace hr := Lib.hid (hr.out.after q)
  replace hf := Lib.hid (hf.out.after q)
  replace ht := Lib.hid (ht.out.after q)
  clear q
  rw [hB.out]
  obtain ⟨x0, x1, x2, x3, x4, x5⟩ := id k0
  go_wp2_with fail
  clear x0 x1 x2 x3 x4 x5
  refine (impl_joints a1 a2 a3 at_ n1 c1 n2 c2 n3 c3 mt ct l lo hi t _ h1.out h2.out h3.out h5.out ⟨m1, m2, m3⟩ (by omega) hr.out ht.out).mono ?_
  rintro e wt ⟨rfl, q⟩
  replace k0 := k0.after q
  replace bb := Lib.hid (bel_after bb.out q)
  replace hr := Lib.hid (hr.out.after q)
  replace hf := Lib.hid (hf.out.after q)
  replace ht := Lib.hid (ht.out.after q)
  clear q
  rw [hB2.out]
  obtain ⟨b4, o4, rfl⟩ := hf.out.form (by rw [h4.out]; omega)
  obtain ⟨b5, o5, rfl⟩ := ht.out.form (by rw [h5.out]; omega)
  obtain ⟨x0, x1, x2, x3, x4, x5⟩ := id k0
  go_wp2_with (go_at_call 54; refine (limits_yes _ _ _ hlim.out).mono ?_; rintro e w' ⟨rfl, rfl⟩)
  clear x0 x1 x2 x3 x4 x5
  go_loopw [11, 12, 37] (fun q _ i wr => ∃ k : Nat, i = .int .i64 k ∧ k ≤ mf ∧ q = .int .i64 (M.mostT f t k) ∧ Hid (Below wt.heap.size wt wr)) (fun _ _ i _ => mf - (intOf i).toNat)
  case atStart => exact ⟨0, rfl, Nat.zero_le _, rfl, Below.refl _ _⟩
  case round =>
    obtain ⟨k, rfl, hk, rfl, hbb⟩ := hrel
    by_cases hlt : k < mf
    · have y1 := hf.out.cell hbb.out (k := k) (by rw [h4.out]; omega)
      have y2 := ht.out.cell hbb.out (k := k) (by rw [h5.out]; omega)
      obtain ⟨u1, u2⟩ := v1.out k hlt
      obtain ⟨u3, u4⟩ := v2.out k hlt
      obtain ⟨u5, u6⟩ := M.mostT_bd (f := f) (t := t) (B := 180) (by omega) (k := k) (fun i hi => ⟨(v1.out i (by omega)).1, (v1.out i (by omega)).2, (v2.out i (by omega)).1, (v2.out i (by omega)).2⟩)
      have hs := Lib.hid (show M.mostT f t (k + 1) = max (M.mostT f t k) (max (f.getD k 0 - t.getD k 0) (t.getD k 0 - f.getD k 0)) from rfl)
      have hk4 : (k : Int) < (mf : Int) := by omega
      have hk5 : (k : Int) < (mt : Int) := by omega
      clear q1 q2
      generalize f.getD k 0 = x at *
      generalize t.getD k 0 = y at *
      generalize hq : M.mostT f t k = q at *
      clear hq
      have e3 : IntKind.i64.wrap (x - y) = x - y := IntWalk.i64_in _ (by omega)
      have e4 : IntKind.i64.wrap (y - x) = y - x := IntWalk.i64_in _ (by omega)
      go_wp2_with fail
      by_cases c1 : q < y - x
      · by_cases c2 : y - x < x - y
        · go_quiet (fail)
          go_wp2_with fail
          go_roundw
          case rel => exact ⟨k + 1, by go_num, by omega, by rw [hs.out]; go_num, ⟨hbb.out.os, hbb.out.tape, hbb.out.output, hbb.out.size, hbb.out.block⟩⟩
          case measure => simp [intOf]; omega
        · go_quiet (fail)
          go_wp2_with fail
          go_roundw
          case rel => exact ⟨k + 1, by go_num, by omega, by rw [hs.out]; go_num, ⟨hbb.out.os, hbb.out.tape, hbb.out.output, hbb.out.size, hbb.out.block⟩⟩
          case measure => simp [intOf]; omega
      · by_cases c2 : q < x - y
        · go_quiet (fail)
          go_wp2_with fail
          go_roundw
          case rel => exact ⟨k + 1, by go_num, by omega, by rw [hs.out]; go_num, ⟨hbb.out.os, hbb.out.tape, hbb.out.output, hbb.out.size, hbb.out.block⟩⟩
          case measure => simp [intOf]; omega
        · go_quiet (fail)
          go_wp2_with fail
          go_roundw
          case rel => exact ⟨k + 1, by go_num, by omega, by rw [hs.out]; go_num, ⟨hbb.out.os, hbb.out.tape, hbb.out.output, hbb.out.size, hbb.out.block⟩⟩
          case measure => simp [intOf]; omega
    · obtain rfl : k = mf := by omega
      rename_i _ _
      obtain ⟨wq, rfl⟩ : ∃ u : World, u = wr := ⟨_, rfl⟩
      replace bb := Lib.hid (bel_after bb.out hbb.out)
      replace hf := Lib.hid (hf.out.after hbb.out)
      replace ht := Lib.hid (ht.out.after hbb.out)
      clear hbb k0 hr
      generalize hd : M.mostT f t k = D at *
      clear hd
      go_wp2_with fail
      refine (impl_prof D top rise _).mono ?_
      rintro e wp hq
      obtain ⟨np, hnp⟩ : ∃ np, (M.prof D top rise).length = np := ⟨_, rfl⟩
      obtain ⟨pa, pd, rfl, op, q⟩ := ints_view hnp hq
      rw [hnp] at hp
      rw [hnp]
      replace hnp := Lib.hid hnp
      replace bb := Lib.hid (bel_after bb.out q)
      replace hf := Lib.hid (hf.out.after q)
      replace ht := Lib.hid (ht.out.after q)
      have hrp := Lib.hid op.row
      clear q hq op
      go_wp2_with fail
      go_loopw [13, 14, 66] (fun v q i wr => ∃ (k : Nat) (P : Int), i = .int .i64 k ∧ k ≤ np ∧ q = .int .i64 P ∧ (0 ≤ P ∧ P ≤ 200 * k) ∧ Hid (OwnsV wr wp.heap.size v k) ∧ Hid (Below wp.heap.size wp wr)) (fun _ _ i _ => np - (intOf i).toNat)
      case atStart => exact ⟨0, 0, rfl, Nat.zero_le _, rfl, ⟨Int.le_refl _, by simp⟩, OwnsV.nil _ _, Below.refl _ _⟩
      case round =>
        obtain ⟨i, P, rfl, hi, rfl, ⟨hP0, hP1⟩, ho, hbb⟩ := hrel
        by_cases hlt2 : i < np
        · obtain ⟨pb, po, rfl⟩ := hrp.out.form (by rw [hnp.out]; omega)
          have hD : 1 ≤ D := by
            have := hpf.out.2.2.1
            rw [hnp.out] at this
            omega
          have hD0 : (D == 0) = false := by simp; omega
          have hD1 : ¬ D = 0 := by omega
          have y1 := hrp.out.cell hbb.out (k := i) (by rw [hnp.out]; omega)
          have hv := hpb.out ((M.prof D top rise).getD i 0) (by rw [List.getD_eq_getElem?_getD, List.getElem?_eq_getElem (by rw [hnp.out]; exact hlt2)]; exact List.getElem_mem _)
          generalize (M.prof D top rise).getD i 0 = v at *
          obtain ⟨hv1, hv2⟩ := hv
          have hP2 := Lib.hid (passed_bd hP0 hP1 hv1 hv2)
          have hk4 : (i : Int) < (np : Int) := by omega
          go_wp2_with fail
          obtain ⟨wz, rfl⟩ : ∃ u : World, u = wr := ⟨_, rfl⟩
          have hfz := Lib.hid (hf.out.after hbb.out)
          refine (clone_ints (some ⟨b4, o4, none⟩) k cf f _ h4.out (by omega) hfz.out).mono ?_
          rintro e w5 hq
          obtain ⟨ga, gc, rfl, og, q⟩ := ints_view h4.out hq
          obtain ⟨g, rfl⟩ : ∃ g, ga = some ⟨g, 0, none⟩ := by
            rcases og.2 with ⟨u, v⟩ | ⟨g, _, _, u, _⟩
            · rw [h4.out] at v; omega
            · injection u with u; exact ⟨g, u⟩
          have hg := (og.lt (k := g) rfl).1
          replace og := Lib.hid og
          replace q := Lib.hid q
          clear hq y1
          generalize hPv : P + v = P' at *
          replace hPv := Lib.hid hPv
          obtain ⟨hP3, hP4⟩ := hP2.out
          go_wp2_with fail
          go_loopw [77] (fun n wi => ∃ (j : Nat) (X : List Int), n = .int .i64 j ∧ j ≤ k ∧ X.length = j ∧ Hid (Owns wi wz.heap.size (.slice (some ⟨g, 0, none⟩) k gc) (X ++ f.drop j)) ∧ Hid (Below wz.heap.size wz wi)) (fun n _ => k - (intOf n).toNat)
          case atStart => exact ⟨0, [], rfl, Nat.zero_le _, rfl, by exact og, q⟩
          case round =>
            obtain ⟨j, X, rfl, hj, hX, hoi, hbi⟩ := hrel
            replace hX := Lib.hid hX
            have hlen := Lib.hid (show (X ++ f.drop j).length = k from by rw [List.length_append, hX.out, List.length_drop, h4.out]; omega)
            by_cases hlt3 : j < k
            · have hbw := Lib.hid (hbb.out.trans (hbi.out.mono hbb.out.size))
              have z1 := hf.out.cell hbw.out (k := j) (by rw [h4.out]; omega)
              have z2 := ht.out.cell hbw.out (k := j) (by rw [h5.out]; omega)
              obtain ⟨c1, c2, c3, c4⟩ := hoi.out.cellAt hlen.out j hlt3
              rw [getD_mid hX.out] at c1
              have hsm := Lib.hid (fun y => set_mid (f := f) hX.out (by rw [h4.out]; exact hlt3) y)
              obtain ⟨u1, u2⟩ := v1.out j hlt3
              obtain ⟨u3, u4⟩ := v2.out j hlt3
              generalize f.getD j 0 = x at *
              generalize t.getD j 0 = y at *
              have hj4 : (j : Int) < (k : Int) := by omega
              have hj5 : (j : Int) < (mt : Int) := by omega
              have hPB : P' ≤ 1000000 := by
                have h1 := hP4
                rw [Int.natCast_succ] at h1
                omega
              obtain ⟨d1, d2⟩ := M.mul_bd2 (a := y - x) (b := P') (A := 360) (B := 1000000) (by omega) (by omega) hP3 hPB (by omega)
              obtain ⟨d3, d4⟩ := M.tdiv_bd2 (n := (y - x) * P') (d := D) (B := 360 * 1000000) (by omega) d1 d2
              have e1 : IntKind.i64.wrap (y - x) = y - x := IntWalk.i64_in _ (by omega)
              have e2 : IntKind.i64.wrap ((y - x) * P') = (y - x) * P' := IntWalk.i64_in _ (by omega)
              have e3 : IntKind.i64.wrap (((y - x) * P').tdiv D) = ((y - x) * P').tdiv D := IntWalk.i64_in _ (by omega)
              have e4 : IntKind.i64.wrap (x + ((y - x) * P').tdiv D) = x + ((y - x) * P').tdiv D := IntWalk.i64_in _ (by omega)
              have hst := Lib.hid (hoi.out.put hlen.out j (x + ((y - x) * P').tdiv D))
              clear hoi c3 c4
              go_wp2_with fail
              refine wp_region_still_tail 19 (by kernel_rfl) (by kernel_rfl) ?_
              simp only [List.take_succ_cons, List.take_zero, List.drop_succ_cons, List.drop_zero]
              change wpStill _ _ (World.drew _) (fun a' => wpList _ _ _ _ a' (World.drew _)) _ _
              repeat still_step
              refine wpStill_nil ?_
              go_wp2_with fail
              go_roundw
              case rel => exact ⟨j + 1, X ++ [x + ((y - x) * P').tdiv D], by go_num, by omega, by simp [hX.out], by rw [← hsm.out]; exact hst.out, (hbi.out.setCell (p := ⟨g, j, none⟩) hg _).drew⟩
              case measure => simp [intOf]; omega
            · obtain rfl : j = k := by omega
              have hov := ho.out.old hbi.out
              obtain ⟨xs, hxs⟩ := hov
              have hsz1 := hbb.out.size
              have hsz2 := hbi.out.size
              have hbw := Lib.hid (hbb.out.trans (hbi.out.mono hbb.out.size))
              replace hxs := Lib.hid hxs
              clear hoi hlen hX ho
              go_wp2_with (at_builtin; refine wpList_append_own _ rfl _ _ 62 rfl wp.heap.size 23 i0 (.slice none 0 0) 1 24 Try.underlying62 hi0 hz0 hz1 hz2 rfl (by decide) _ i xs rfl (World.ownsRow.alloc hxs.out _) ⟨wr.heap.size, 0, none⟩ 1 1 [.slice (some ⟨g, 0, none⟩) j gc] rfl rfl (slice_new _ _ _) (slice_one _ _ _) ?c3 ?c4 ?c5 ?_)
              case c3 => unfold maxLen; omega
              case c4 => omega
              case c5 => simp; omega
              intro v' w1 hown' hgrow _
              have hp9 := Lib.hid (show OwnsV w1 wp.heap.size v' (i + 1) from ⟨_, hown'⟩)
              have hb9 := Lib.hid ((hbw.out.alloc (by omega) _).grown hgrow (by simp; omega) (fun k hk => (World.ownsRow.lt hxs.out k hk).1))
              clear hown' hgrow hxs
              go_wp2
              go_roundw
              case rel => exact ⟨i + 1, P', by go_num, by omega, rfl, ⟨hP3, hP4⟩, hp9.out, hb9.out⟩
              case measure => simp [intOf]; omega
        · obtain rfl : i = np := by omega
          obtain ⟨a, cap, rfl⟩ := ho.out.form
          go_wp2_with fail
          go_ret
          exact rows_ret (a := a) (cap := cap) hnp.out.symm (bel_after bb.out hbb.out)
set_option maxHeartbeats 4000000 in
theorem impl_mtime (a1 a2 a3 af at_ : Option Addr) (n1 c1 n2 c2 n3 c3 mf cf mt ct : Nat) (l lo hi f t : List Int) (top rise : Int) (w : World) (h1 : l.length = n1) (h2 : lo.length = n2) (h3 : hi.length = n3) (h4 : f.length = mf) (h5 : t.length = mt) (hm : n1 ≤ 1000000000 ∧ n2 ≤ 1000000000 ∧ n3 ≤ 1000000000) (hm4 : mf ≤ 1000000000) (hm5 : mt ≤ 1000000000) (hr : ArmAt w w.heap.size a1 a2 a3 l lo hi) (hf : Row w w.heap.size af f) (ht : Row w w.heap.size at_ t) :
    Calls Try.prog 37 #[.agg #[.slice a1 n1 c1, .slice a2 n2 c2, .slice a3 n3 c3], .slice af mf cf, .slice at_ mt ct, .int .i64 top, .int .i64 rise] w fun e w' => e = .returned (.int .i64 (M.mtime l lo hi f t top rise)) ∧ Below w.heap.size w w' := by
  obtain ⟨m1, m2, m3⟩ := hm
  replace h1 := Lib.hid h1
  replace h2 := Lib.hid h2
  replace h3 := Lib.hid h3
  replace h4 := Lib.hid h4
  replace h5 := Lib.hid h5
  replace hr := Lib.hid hr
  replace hf := Lib.hid hf
  replace ht := Lib.hid ht
  have bb := Lib.hid (Below.refl w.heap.size w)
  have k0 := Cell3.new w (.slice a1 n1 c1) (.slice a2 n2 c2) (.slice a3 n3 c3) 25
  replace bb := Lib.hid (bel_after bb.out (bel_new w (.cells #[.slice a1 n1 c1, .slice a2 n2 c2, .slice a3 n3 c3] 25)))
  replace hr := Lib.hid (hr.out.after (bel_new w (.cells #[.slice a1 n1 c1, .slice a2 n2 c2, .slice a3 n3 c3] 25)))
  replace hf := Lib.hid (hf.out.after (bel_new w (.cells #[.slice a1 n1 c1, .slice a2 n2 c2, .slice a3 n3 c3] 25)))
  replace ht := Lib.hid (ht.out.after (bel_new w (.cells #[.slice a1 n1 c1, .slice a2 n2 c2, .slice a3 n3 c3] 25)))
  go_enter Try.func37, Try.ntmps37
  obtain ⟨x0, x1, x2, x3, x4, x5⟩ := id k0
  go_wp2_with fail
  clear x0 x1 x2 x3 x4 x5
  refine (impl_joints a1 a2 a3 af n1 c1 n2 c2 n3 c3 mf cf l lo hi f _ h1.out h2.out h3.out h4.out ⟨m1, m2, m3⟩ (by omega) hr.out hf.out).mono ?_
  rintro e wf ⟨rfl, q⟩
  replace k0 := k0.after q
  replace bb := Lib.hid (bel_after bb.out q)
  replace hr := Lib.hid (hr.out.after q)
  replace hf := Lib.hid (hf.out.after q)
  replace ht := Lib.hid (ht.out.after q)
  clear q
  cases hB : M.jointsB l lo hi f
  · have hfin := Lib.hid (M.mtime_no (M.mv_f (t := t) (top := top) (rise := rise) hB))
    clear hB
    obtain ⟨x0, x1, x2, x3, x4, x5⟩ := id k0
    go_wp2_with fail
    clear x0 x1 x2 x3 x4 x5
    go_ret
    exact ⟨ret_int hfin.out, bb.out⟩
  · replace hB := Lib.hid hB
    obtain ⟨x0, x1, x2, x3, x4, x5⟩ := id k0
    go_wp2_with fail
    clear x0 x1 x2 x3 x4 x5
    refine (impl_joints a1 a2 a3 at_ n1 c1 n2 c2 n3 c3 mt ct l lo hi t _ h1.out h2.out h3.out h5.out ⟨m1, m2, m3⟩ (by omega) hr.out ht.out).mono ?_
    rintro e wt ⟨rfl, q⟩
    replace k0 := k0.after q
    replace bb := Lib.hid (bel_after bb.out q)
    replace hr := Lib.hid (hr.out.after q)
    replace hf := Lib.hid (hf.out.after q)
    replace ht := Lib.hid (ht.out.after q)
    clear q
    cases hB2 : M.jointsB l lo hi t
    · have hfin := Lib.hid (M.mtime_no (M.mv_t (f := f) (top := top) (rise := rise) hB2))
      clear hB2
      obtain ⟨x0, x1, x2, x3, x4, x5⟩ := id k0
      go_wp2_with fail
      clear x0 x1 x2 x3 x4 x5
      go_ret
      exact ⟨ret_int hfin.out, bb.out⟩
    · replace hB2 := Lib.hid hB2
      by_cases hlim : (1 ≤ top ∧ top ≤ 200) ∧ (1 ≤ rise ∧ rise ≤ 50)
      · have hok := Lib.hid (M.mv_y hB.out hB2.out hlim)
        have hfin := Lib.hid (M.mtime_yes hok.out)
        replace hlim := Lib.hid hlim
        obtain ⟨x0, x1, x2, x3, x4, x5⟩ := id k0
        go_wp2_with (go_at_call 54; refine (limits_yes _ _ _ hlim.out).mono ?_; rintro e w' ⟨rfl, rfl⟩)
        clear x0 x1 x2 x3 x4 x5
        have hp := M.prof_len (M.mostT f t f.length) top rise
        generalize hnp : (M.prof (M.mostT f t f.length) top rise).length = np at *
        refine (impl_mjoints a1 a2 a3 af at_ n1 c1 n2 c2 n3 c3 mf cf mt ct l lo hi f t top rise _ h1.out h2.out h3.out h4.out h5.out ⟨m1, m2, m3⟩ (by omega) (by omega) hr.out hf.out ht.out hok.out).mono ?_
        rintro e wz ⟨a, cap, rfl, q⟩
        rw [hnp]
        replace bb := Lib.hid (bel_after bb.out q)
        clear q hnp k0 hr hf ht
        go_wp2_with fail
        go_ret
        exact ⟨ret_int hfin.out, bb.out⟩
      · have hfin := Lib.hid (M.mtime_no (M.mv_l (l := l) (lo := lo) (hi := hi) (f := f) (t := t) hlim))
        replace hlim := Lib.hid hlim
        obtain ⟨x0, x1, x2, x3, x4, x5⟩ := id k0
        go_wp2_with (go_at_call 54; refine (limits_no _ _ _ hlim.out).mono ?_; rintro e w' ⟨rfl, rfl⟩)
        go_ret
        exact ⟨ret_int hfin.out, bb.out⟩
end Go.Proofs.Ytnkjnphmpembaaa
