/- Proves that the law FnArmValid returns true for every input. Conditions: none. -/
import Derived.Test.YtnkjnphmpembaaaRows
import Derived.Test.YtnkjnphmpembaaaDraws
import Derived.Test.YtnkjnphmpembaaaJoints
import Derived.Test.YtnkjnphmpembaaaAlive
import Derived.ChangeOld
import Derived.ShutString
import Derived.Lib.SmallJoins
import Derived.Deep.RegionHeld3
import Derived.Deep.DeepCutAuto
import Derived.Deep.CutBlock
namespace Go.Proofs.Ytnkjnphmpembaaa.fnArmValid
open Go.ChangeShapes Go.WideShapes Go.ChangeAt Go.RowKit
set_option linter.unusedVariables false
theorem owns_lit0 {w : World} {B N : Nat} {v : Value} {l : List Int} (hN : ([0] ++ l.drop 1).length = N) (h : w.ownsRow B 3 1 v N (.int .i64 0 :: (l.map (Value.int .i64)).tail)) : Owns w B v ([0] ++ l.drop 1) := by
  unfold Owns
  rw [hN]
  have e : ([0] ++ l.drop 1).map (Value.int .i64) = .int .i64 0 :: (l.map (Value.int .i64)).tail := by cases l <;> simp
  rw [e]; exact h
theorem row_cut1 {w : World} {B b o : Nat} {l : List Int} (h : Row w B (some ⟨b, o, none⟩) l) : Row w B (some ⟨b, o + 1, none⟩) (l.drop 1) := by
  rcases h with h | ⟨b', o', e, hlt, hc⟩
  · left; rw [h]; rfl
  · injection e with e
    injection e with e1 e2
    subst e1; subst e2
    refine .inr ⟨b, o + 1, rfl, hlt, fun i hi => ?_⟩
    rw [List.length_drop] at hi
    have := hc (1 + i) (by omega)
    rw [show o + 1 + i = o + (1 + i) by omega, this, List.getD_eq_getElem?_getD, List.getD_eq_getElem?_getD, List.getElem?_drop]
theorem row_cut_nil {w : World} {B : Nat} {a : Option Addr} {l : List Int} (h : Row w B a l) (hl : l.length ≤ 1) : Row w B a (l.drop 1) := .inl (List.eq_nil_of_length_eq_zero (by rw [List.length_drop]; omega))
theorem M.armB_drop {l lo hi : List Int} (h : M.armB l lo hi = true) : M.armB l lo (hi.drop 1) = false := by
  obtain ⟨⟨⟨e1, e2⟩, e3, e4⟩, _⟩ := M.armB_true h
  exact (M.armB_len (by rw [List.length_drop]; omega)).symm
theorem M.armB_zero {l lo hi : List Int} : M.armB ([0] ++ l.drop 1) lo hi = false :=
  (M.armB_bad (k := 0) (by simp) (by simp [M.linkB])).symm
set_option maxRecDepth 20000 in
set_option maxHeartbeats 8000000 in
theorem walk (a0 : Option Addr) (len0 cap0 : Nat) (z0 : List Int) (w : World) (w0 : IsRow .u8 w a0 len0 cap0 z0) :
    Calls Try.prog 3 #[.slice a0 len0 cap0] w fun e w' => e = .returned (.bool true) ∧ Below w.heap.size w w' := by
  by_cases hlen : (1048576 : Int) < len0
  · go_enter Try.func3, Try.ntmps3
    go_wp2
    go_ret
    exact ⟨rfl, Below.refl _ _⟩
  · go_enter Try.func3, Try.ntmps3
    go_wp2_with fail
    refine (draw_ArmValid a0 len0 cap0 z0 _ w0).mono ?_
    rintro e w1 ⟨a1, n1, c1, a2, n2, c2, a3, n3, c3, l, lo, hi, rfl, hf, q⟩
    have bb := Lib.hid q
    clear w0 hlen q
    obtain ⟨h1, h2, h3⟩ := hf.len
    obtain ⟨m1, m2, m3⟩ := hf.le
    obtain ⟨cp1, cp3⟩ := hf.cap
    have hr := Lib.hid hf.row
    have hr1 := hr
    have bc := Lib.hid (Below.refl w1.heap.size w1)
    have hq1 := bb
    replace h1 := Lib.hid h1
    replace h2 := Lib.hid h2
    replace h3 := Lib.hid h3
    clear hf
    go_wp2_with fail
    have k0 := Cell3.new w1 (.slice a1 n1 c1) (.slice a2 n2 c2) (.slice a3 n3 c3) 25
    have hsB : w1.heap.size < (w1.alloc (.cells #[.slice a1 n1 c1, .slice a2 n2 c2, .slice a3 n3 c3] 25)).heap.size := by simp
    replace bb := Lib.hid (bel_after bb.out (bel_new w1 (.cells #[.slice a1 n1 c1, .slice a2 n2 c2, .slice a3 n3 c3] 25)))
    replace hr := Lib.hid (hr.out.after (bel_new w1 (.cells #[.slice a1 n1 c1, .slice a2 n2 c2, .slice a3 n3 c3] 25)))
    replace bc := Lib.hid (bel_after bc.out (bel_new w1 (.cells #[.slice a1 n1 c1, .slice a2 n2 c2, .slice a3 n3 c3] 25)))
    generalize hK : w1.heap.size = K at k0 ⊢ hsB
    have hKw : w1.heap.size ≤ K := Nat.le_of_eq hK
    clear hK
    generalize w1.alloc (.cells #[.slice a1 n1 c1, .slice a2 n2 c2, .slice a3 n3 c3] 25) = v at *
    obtain ⟨w2, rfl⟩ : ∃ u : World, u = v := ⟨_, rfl⟩
    refine (impl_arm a1 a2 a3 n1 c1 n2 c2 n3 c3 l lo hi _ h1.out h2.out h3.out (by omega) hr.out).mono ?_
    rintro e w3 ⟨rfl, q⟩
    have z3 := q.size
    replace bb := Lib.hid (bel_after bb.out q)
    replace hr := Lib.hid (hr.out.after q)
    replace bc := Lib.hid (bel_after bc.out q)
    replace k0 := k0.after q
    clear q
    obtain ⟨k0x, k0y, k0z, k0u, k0v, k0w⟩ := id k0
    go_wp2_with fail
    clear k0x k0y k0z k0u k0v k0w
    refine (spec_arm a1 a2 a3 n1 c1 n2 c2 n3 c3 l lo hi _ h1.out h2.out h3.out (by omega) hr.out).mono ?_
    rintro e w4 ⟨rfl, q⟩
    have z4 := q.size
    replace bb := Lib.hid (bel_after bb.out q)
    replace hr := Lib.hid (hr.out.after q)
    replace bc := Lib.hid (bel_after bc.out q)
    replace k0 := k0.after q
    clear q
    cases hA : M.armB l lo hi
    · have _t := True.intro
      obtain ⟨x0, x1, x2, x3, x4, x5⟩ := id k0
      go_wp2_with (go_at_call 16; refine (alive _).mono ?_; rintro e w' ⟨rfl, rfl⟩)
      go_ret
      exact ⟨rfl, bb.out⟩
    · have hf1 := Lib.hid (M.armB_drop hA)
      have hf2 := Lib.hid (M.armB_zero (l := l) (lo := lo) (hi := hi))
      obtain ⟨⟨⟨e1, e2⟩, e3, e4⟩, _⟩ := M.armB_true hA
      rw [h1.out] at e1 e2 e3 e4
      rw [h2.out] at e3
      rw [h3.out] at e4
      have g3 : 1 ≤ n3 := by omega
      clear e3 e4 hA
      obtain ⟨i0, hi0, hz0, hz1, hz2⟩ := info_parts infoInt
      obtain ⟨b1, o1, rfl⟩ := hr.out.1.form (by rw [h1.out]; omega)
      obtain ⟨b3, o3, rfl⟩ := hr.out.2.2.form (by rw [h3.out]; omega)
      have d1 : (1 : Int) ≤ (n1 : Int) := by omega
      have d2 : (n1 : Int) ≤ (c1 : Int) := by omega
      have d3 : (1 : Int) ≤ (n3 : Int) := by omega
      have d4 : (n3 : Int) ≤ (c3 : Int) := by omega
      have hKW : K < w4.heap.size := k0.lt
      by_cases q3 : c3 = 1
      · have hRb1 := Lib.hid (row_cut_nil (hr1.out.2.2) (by rw [h3.out]; omega))
        have q3n : n3 = 1 := by omega
        subst q3
        subst q3n
        obtain ⟨x0, x1, x2, x3, x4, x5⟩ := id k0
        go_upto_region 12 with fail
        clear x0 x1 x2 x3 x4 x5
        replace bb := Lib.hid (bel_after bb.out (bel_new w4 (.cells #[.slice (some ⟨b1, o1, none⟩) n1 c1, .slice a2 n2 c2, .slice (some ⟨b3, o3, none⟩) 0 0] 25)))
        replace hr := Lib.hid (hr.out.after (bel_new w4 (.cells #[.slice (some ⟨b1, o1, none⟩) n1 c1, .slice a2 n2 c2, .slice (some ⟨b3, o3, none⟩) 0 0] 25)))
        replace bc := Lib.hid (bel_after bc.out (bel_new w4 (.cells #[.slice (some ⟨b1, o1, none⟩) n1 c1, .slice a2 n2 c2, .slice (some ⟨b3, o3, none⟩) 0 0] 25)))
        replace k0 := k0.after (bel_new w4 (.cells #[.slice (some ⟨b1, o1, none⟩) n1 c1, .slice a2 n2 c2, .slice (some ⟨b3, o3, none⟩) 0 0] 25))
        have kB := Cell3.new w4 (.slice (some ⟨b1, o1, none⟩) n1 c1) (.slice a2 n2 c2) (.slice (some ⟨b3, o3, none⟩) 0 0) 25
        have hs1 := World.size_alloc w4 (.cells #[.slice (some ⟨b1, o1, none⟩) n1 c1, .slice a2 n2 c2, .slice (some ⟨b3, o3, none⟩) 0 0] 25)
        have kC := Cell3.new (w4.alloc (.cells #[.slice (some ⟨b1, o1, none⟩) n1 c1, .slice a2 n2 c2, .slice (some ⟨b3, o3, none⟩) 0 0] 25)) (.slice (some ⟨b1, o1, none⟩) n1 c1) (.slice a2 n2 c2) (.slice (some ⟨b3, o3, none⟩) 1 1) 25
        replace bb := Lib.hid (bel_after bb.out (bel_new (w4.alloc (.cells #[.slice (some ⟨b1, o1, none⟩) n1 c1, .slice a2 n2 c2, .slice (some ⟨b3, o3, none⟩) 0 0] 25)) (.cells #[.slice (some ⟨b1, o1, none⟩) n1 c1, .slice a2 n2 c2, .slice (some ⟨b3, o3, none⟩) 1 1] 25)))
        replace hr := Lib.hid (hr.out.after (bel_new (w4.alloc (.cells #[.slice (some ⟨b1, o1, none⟩) n1 c1, .slice a2 n2 c2, .slice (some ⟨b3, o3, none⟩) 0 0] 25)) (.cells #[.slice (some ⟨b1, o1, none⟩) n1 c1, .slice a2 n2 c2, .slice (some ⟨b3, o3, none⟩) 1 1] 25)))
        replace bc := Lib.hid (bel_after bc.out (bel_new (w4.alloc (.cells #[.slice (some ⟨b1, o1, none⟩) n1 c1, .slice a2 n2 c2, .slice (some ⟨b3, o3, none⟩) 0 0] 25)) (.cells #[.slice (some ⟨b1, o1, none⟩) n1 c1, .slice a2 n2 c2, .slice (some ⟨b3, o3, none⟩) 1 1] 25)))
        replace k0 := k0.after (bel_new (w4.alloc (.cells #[.slice (some ⟨b1, o1, none⟩) n1 c1, .slice a2 n2 c2, .slice (some ⟨b3, o3, none⟩) 0 0] 25)) (.cells #[.slice (some ⟨b1, o1, none⟩) n1 c1, .slice a2 n2 c2, .slice (some ⟨b3, o3, none⟩) 1 1] 25))
        replace kB := kB.after (bel_new (w4.alloc (.cells #[.slice (some ⟨b1, o1, none⟩) n1 c1, .slice a2 n2 c2, .slice (some ⟨b3, o3, none⟩) 0 0] 25)) (.cells #[.slice (some ⟨b1, o1, none⟩) n1 c1, .slice a2 n2 c2, .slice (some ⟨b3, o3, none⟩) 1 1] 25))
        have hs2 := World.size_alloc (w4.alloc (.cells #[.slice (some ⟨b1, o1, none⟩) n1 c1, .slice a2 n2 c2, .slice (some ⟨b3, o3, none⟩) 0 0] 25)) (.cells #[.slice (some ⟨b1, o1, none⟩) n1 c1, .slice a2 n2 c2, .slice (some ⟨b3, o3, none⟩) 1 1] 25)
        rw [hs1] at kC hs2
        generalize (w4.alloc (.cells #[.slice (some ⟨b1, o1, none⟩) n1 c1, .slice a2 n2 c2, .slice (some ⟨b3, o3, none⟩) 0 0] 25)).alloc (.cells #[.slice (some ⟨b1, o1, none⟩) n1 c1, .slice a2 n2 c2, .slice (some ⟨b3, o3, none⟩) 1 1] 25) = v at *
        generalize w4.heap.size = S at *
        clear hs1
        replace hs2 := Lib.hid hs2
        by_cases q1 : c1 = 1
        · have hRc := Lib.hid (row_cut_nil hr.out.1 (by rw [h1.out]; omega))
          have q1n : n1 = 1 := by omega
          subst q1
          subst q1n
          have hnews := Lib.hid (row_news hRc.out (bel_new v (.cells #[.int .i64 0] 3)))
          have hlit := Lib.hid (World.ownsRow_lit (base := v.heap.size) (e := 3) (size := 1) v #[.int .i64 0] 1 (Nat.le_refl _) (by unfold maxLen; omega) rfl)
          have hkK := k0.lt
          have hkC := kC.lt
          have hkB := kB.lt
          have hdl := Lib.hid (show (l.drop 1).length = 0 from by rw [List.length_drop, h1.out])
          obtain ⟨x0, x1, x2, x3, x4, x5⟩ := id k0
          obtain ⟨y0, y1, y2, y3, y4, y5⟩ := id kC
          go_wp2_with (at_builtin; refine wpList_append_own _ rfl _ _ 23 rfl v.heap.size 3 i0 (.int .i64 0) 1 8 Try.underlying23 hi0 hz0 hz1 hz2 rfl (by decide) _ _ _ rfl hlit.out ⟨b1, o1, none⟩ (0) (0) ((l.drop 1).map (Value.int .i64)) rfl (by (rw [List.length_map, hdl.out]) <;> omega) hnews.out (int_one _) (by unfold maxLen; omega) (by omega) (Nat.le_of_lt (by simp)) ?_)
          intro v' w9 hown hgrow _
          have hlc := Lib.hid (show ([0] ++ l.drop 1).length = 1 from by rw [List.length_append, hdl.out, List.length_singleton] <;> omega)
          have oc : Owns w9 v.heap.size v' ([0] ++ l.drop 1) := owns_lit0 hlc.out hown
          have q : Below v.heap.size v w9 := ((Below.refl _ _).alloc (Nat.le_refl _) _).grown hgrow (Nat.le_of_lt (by simp)) (fun k hk => by simp [Value.ownBlock] at hk; omega)
          replace bb := Lib.hid (bel_after bb.out q)
          replace hr := Lib.hid (hr.out.after q)
          replace bc := Lib.hid (bel_after bc.out q)
          replace k0 := k0.after q
          replace kB := kB.after q
          replace kC := kC.after q
          have hz9 := q.size
          clear q hown hgrow hnews hlit x0 x1 x2 x3 x4 x5 y0 y1 y2 y3 y4 y5
          obtain ⟨pa, pd, rfl, _⟩ := oc.view
          rw [hlc.out] at oc
          rw [hlc.out]
          obtain ⟨y0, y1, y2, y3, y4, y5⟩ := id kC
          obtain ⟨x0, x1, x2, x3, x4, x5⟩ := id kB
          have nSS : S ≠ S + 1 := by omega
          go_wp2_with fail
          clear x0 x1 x2 x3 x4 x5 y0 y1 y2 y3 y4 y5
          have g := grown_set w9 (S + 1) 0 (.slice pa 1 pd)
          replace kB := kB.grown g (by simp)
          replace kC := kC.put0 (.slice pa 1 pd)
          replace oc := oc.far g hkC
          replace bc := Lib.hid (bel_grown bc.out g (by omega))
          clear g k0
          generalize w9.setCell ⟨S + 1, 0, none⟩ (.slice pa 1 pd) = u at *
          refine (impl_arm _ _ _ 1 1 n2 c2 0 0 l lo (hi.drop 1) _ h1.out h2.out (by (rw [List.length_drop, h3.out])) (by omega) ⟨hr1.out.1.after bc.out, hr1.out.2.1.after bc.out, hRb1.out.after bc.out⟩).mono ?_
          rintro e w11 ⟨rfl, q⟩
          rw [hf1.out]
          replace kC := kC.after q
          replace bc := Lib.hid (bel_after bc.out q)
          replace oc := Lib.hid (oc.after q)
          clear q
          obtain ⟨y0, y1, y2, y3, y4, y5⟩ := id kC
          go_wp2_with fail
          clear y0 y1 y2 y3 y4 y5
          refine (impl_arm _ _ _ 1 pd n2 c2 1 1 ([0] ++ l.drop 1) lo hi _ hlc.out h2.out h3.out (by omega) ⟨oc.out.row, hr1.out.2.1.after bc.out, hr1.out.2.2.after bc.out⟩).mono ?_
          rintro e w12 ⟨rfl, q⟩
          rw [hf2.out]
          replace bc := Lib.hid (bel_after bc.out q)
          clear q
          go_wp2_with fail
          go_ret
          exact ⟨rfl, bel_after hq1.out bc.out⟩
        · have hRc := Lib.hid (row_cut1 hr.out.1)
          have d6 : (1 : Int) < (c1 : Int) := by omega
          have hnews := Lib.hid (row_news hRc.out (bel_new v (.cells #[.int .i64 0] 3)))
          have hlit := Lib.hid (World.ownsRow_lit (base := v.heap.size) (e := 3) (size := 1) v #[.int .i64 0] 1 (Nat.le_refl _) (by unfold maxLen; omega) rfl)
          have hkK := k0.lt
          have hkC := kC.lt
          have hkB := kB.lt
          have hdl := Lib.hid (show (l.drop 1).length = n1 - 1 from by rw [List.length_drop, h1.out])
          obtain ⟨x0, x1, x2, x3, x4, x5⟩ := id k0
          obtain ⟨y0, y1, y2, y3, y4, y5⟩ := id kC
          go_wp2_with (at_builtin; refine wpList_append_own _ rfl _ _ 23 rfl v.heap.size 3 i0 (.int .i64 0) 1 8 Try.underlying23 hi0 hz0 hz1 hz2 rfl (by decide) _ _ _ rfl hlit.out ⟨b1, o1 + 1, none⟩ (n1 - 1) (c1 - 1) ((l.drop 1).map (Value.int .i64)) rfl (by (rw [List.length_map, hdl.out]) <;> omega) hnews.out (int_one _) (by unfold maxLen; omega) (by omega) (Nat.le_of_lt (by simp)) ?_)
          intro v' w9 hown hgrow _
          have hlc := Lib.hid (show ([0] ++ l.drop 1).length = n1 from by rw [List.length_append, hdl.out, List.length_singleton] <;> omega)
          have oc : Owns w9 v.heap.size v' ([0] ++ l.drop 1) := owns_lit0 hlc.out hown
          have q : Below v.heap.size v w9 := ((Below.refl _ _).alloc (Nat.le_refl _) _).grown hgrow (Nat.le_of_lt (by simp)) (fun k hk => by simp [Value.ownBlock] at hk; omega)
          replace bb := Lib.hid (bel_after bb.out q)
          replace hr := Lib.hid (hr.out.after q)
          replace bc := Lib.hid (bel_after bc.out q)
          replace k0 := k0.after q
          replace kB := kB.after q
          replace kC := kC.after q
          have hz9 := q.size
          clear q hown hgrow hnews hlit x0 x1 x2 x3 x4 x5 y0 y1 y2 y3 y4 y5
          obtain ⟨pa, pd, rfl, _⟩ := oc.view
          rw [hlc.out] at oc
          rw [hlc.out]
          obtain ⟨y0, y1, y2, y3, y4, y5⟩ := id kC
          obtain ⟨x0, x1, x2, x3, x4, x5⟩ := id kB
          have nSS : S ≠ S + 1 := by omega
          go_wp2_with fail
          clear x0 x1 x2 x3 x4 x5 y0 y1 y2 y3 y4 y5
          have g := grown_set w9 (S + 1) 0 (.slice pa n1 pd)
          replace kB := kB.grown g (by simp)
          replace kC := kC.put0 (.slice pa n1 pd)
          replace oc := oc.far g hkC
          replace bc := Lib.hid (bel_grown bc.out g (by omega))
          clear g k0
          generalize w9.setCell ⟨S + 1, 0, none⟩ (.slice pa n1 pd) = u at *
          refine (impl_arm _ _ _ n1 c1 n2 c2 0 0 l lo (hi.drop 1) _ h1.out h2.out (by (rw [List.length_drop, h3.out])) (by omega) ⟨hr1.out.1.after bc.out, hr1.out.2.1.after bc.out, hRb1.out.after bc.out⟩).mono ?_
          rintro e w11 ⟨rfl, q⟩
          rw [hf1.out]
          replace kC := kC.after q
          replace bc := Lib.hid (bel_after bc.out q)
          replace oc := Lib.hid (oc.after q)
          clear q
          obtain ⟨y0, y1, y2, y3, y4, y5⟩ := id kC
          go_wp2_with fail
          clear y0 y1 y2 y3 y4 y5
          refine (impl_arm _ _ _ n1 pd n2 c2 1 1 ([0] ++ l.drop 1) lo hi _ hlc.out h2.out h3.out (by omega) ⟨oc.out.row, hr1.out.2.1.after bc.out, hr1.out.2.2.after bc.out⟩).mono ?_
          rintro e w12 ⟨rfl, q⟩
          rw [hf2.out]
          replace bc := Lib.hid (bel_after bc.out q)
          clear q
          go_wp2_with fail
          go_ret
          exact ⟨rfl, bel_after hq1.out bc.out⟩
      · have hRb1 := Lib.hid (row_cut1 hr1.out.2.2)
        have d5 : (1 : Int) < (c3 : Int) := by omega
        obtain ⟨x0, x1, x2, x3, x4, x5⟩ := id k0
        go_upto_region 12 with fail
        clear x0 x1 x2 x3 x4 x5
        replace bb := Lib.hid (bel_after bb.out (bel_new w4 (.cells #[.slice (some ⟨b1, o1, none⟩) n1 c1, .slice a2 n2 c2, .slice (some ⟨b3, o3 + 1, none⟩) (n3 - 1) (c3 - 1)] 25)))
        replace hr := Lib.hid (hr.out.after (bel_new w4 (.cells #[.slice (some ⟨b1, o1, none⟩) n1 c1, .slice a2 n2 c2, .slice (some ⟨b3, o3 + 1, none⟩) (n3 - 1) (c3 - 1)] 25)))
        replace bc := Lib.hid (bel_after bc.out (bel_new w4 (.cells #[.slice (some ⟨b1, o1, none⟩) n1 c1, .slice a2 n2 c2, .slice (some ⟨b3, o3 + 1, none⟩) (n3 - 1) (c3 - 1)] 25)))
        replace k0 := k0.after (bel_new w4 (.cells #[.slice (some ⟨b1, o1, none⟩) n1 c1, .slice a2 n2 c2, .slice (some ⟨b3, o3 + 1, none⟩) (n3 - 1) (c3 - 1)] 25))
        have kB := Cell3.new w4 (.slice (some ⟨b1, o1, none⟩) n1 c1) (.slice a2 n2 c2) (.slice (some ⟨b3, o3 + 1, none⟩) (n3 - 1) (c3 - 1)) 25
        have hs1 := World.size_alloc w4 (.cells #[.slice (some ⟨b1, o1, none⟩) n1 c1, .slice a2 n2 c2, .slice (some ⟨b3, o3 + 1, none⟩) (n3 - 1) (c3 - 1)] 25)
        have kC := Cell3.new (w4.alloc (.cells #[.slice (some ⟨b1, o1, none⟩) n1 c1, .slice a2 n2 c2, .slice (some ⟨b3, o3 + 1, none⟩) (n3 - 1) (c3 - 1)] 25)) (.slice (some ⟨b1, o1, none⟩) n1 c1) (.slice a2 n2 c2) (.slice (some ⟨b3, o3, none⟩) n3 c3) 25
        replace bb := Lib.hid (bel_after bb.out (bel_new (w4.alloc (.cells #[.slice (some ⟨b1, o1, none⟩) n1 c1, .slice a2 n2 c2, .slice (some ⟨b3, o3 + 1, none⟩) (n3 - 1) (c3 - 1)] 25)) (.cells #[.slice (some ⟨b1, o1, none⟩) n1 c1, .slice a2 n2 c2, .slice (some ⟨b3, o3, none⟩) n3 c3] 25)))
        replace hr := Lib.hid (hr.out.after (bel_new (w4.alloc (.cells #[.slice (some ⟨b1, o1, none⟩) n1 c1, .slice a2 n2 c2, .slice (some ⟨b3, o3 + 1, none⟩) (n3 - 1) (c3 - 1)] 25)) (.cells #[.slice (some ⟨b1, o1, none⟩) n1 c1, .slice a2 n2 c2, .slice (some ⟨b3, o3, none⟩) n3 c3] 25)))
        replace bc := Lib.hid (bel_after bc.out (bel_new (w4.alloc (.cells #[.slice (some ⟨b1, o1, none⟩) n1 c1, .slice a2 n2 c2, .slice (some ⟨b3, o3 + 1, none⟩) (n3 - 1) (c3 - 1)] 25)) (.cells #[.slice (some ⟨b1, o1, none⟩) n1 c1, .slice a2 n2 c2, .slice (some ⟨b3, o3, none⟩) n3 c3] 25)))
        replace k0 := k0.after (bel_new (w4.alloc (.cells #[.slice (some ⟨b1, o1, none⟩) n1 c1, .slice a2 n2 c2, .slice (some ⟨b3, o3 + 1, none⟩) (n3 - 1) (c3 - 1)] 25)) (.cells #[.slice (some ⟨b1, o1, none⟩) n1 c1, .slice a2 n2 c2, .slice (some ⟨b3, o3, none⟩) n3 c3] 25))
        replace kB := kB.after (bel_new (w4.alloc (.cells #[.slice (some ⟨b1, o1, none⟩) n1 c1, .slice a2 n2 c2, .slice (some ⟨b3, o3 + 1, none⟩) (n3 - 1) (c3 - 1)] 25)) (.cells #[.slice (some ⟨b1, o1, none⟩) n1 c1, .slice a2 n2 c2, .slice (some ⟨b3, o3, none⟩) n3 c3] 25))
        have hs2 := World.size_alloc (w4.alloc (.cells #[.slice (some ⟨b1, o1, none⟩) n1 c1, .slice a2 n2 c2, .slice (some ⟨b3, o3 + 1, none⟩) (n3 - 1) (c3 - 1)] 25)) (.cells #[.slice (some ⟨b1, o1, none⟩) n1 c1, .slice a2 n2 c2, .slice (some ⟨b3, o3, none⟩) n3 c3] 25)
        rw [hs1] at kC hs2
        generalize (w4.alloc (.cells #[.slice (some ⟨b1, o1, none⟩) n1 c1, .slice a2 n2 c2, .slice (some ⟨b3, o3 + 1, none⟩) (n3 - 1) (c3 - 1)] 25)).alloc (.cells #[.slice (some ⟨b1, o1, none⟩) n1 c1, .slice a2 n2 c2, .slice (some ⟨b3, o3, none⟩) n3 c3] 25) = v at *
        generalize w4.heap.size = S at *
        clear hs1
        replace hs2 := Lib.hid hs2
        by_cases q1 : c1 = 1
        · have hRc := Lib.hid (row_cut_nil hr.out.1 (by rw [h1.out]; omega))
          have q1n : n1 = 1 := by omega
          subst q1
          subst q1n
          have hnews := Lib.hid (row_news hRc.out (bel_new v (.cells #[.int .i64 0] 3)))
          have hlit := Lib.hid (World.ownsRow_lit (base := v.heap.size) (e := 3) (size := 1) v #[.int .i64 0] 1 (Nat.le_refl _) (by unfold maxLen; omega) rfl)
          have hkK := k0.lt
          have hkC := kC.lt
          have hkB := kB.lt
          have hdl := Lib.hid (show (l.drop 1).length = 0 from by rw [List.length_drop, h1.out])
          obtain ⟨x0, x1, x2, x3, x4, x5⟩ := id k0
          obtain ⟨y0, y1, y2, y3, y4, y5⟩ := id kC
          go_wp2_with (at_builtin; refine wpList_append_own _ rfl _ _ 23 rfl v.heap.size 3 i0 (.int .i64 0) 1 8 Try.underlying23 hi0 hz0 hz1 hz2 rfl (by decide) _ _ _ rfl hlit.out ⟨b1, o1, none⟩ (0) (0) ((l.drop 1).map (Value.int .i64)) rfl (by (rw [List.length_map, hdl.out]) <;> omega) hnews.out (int_one _) (by unfold maxLen; omega) (by omega) (Nat.le_of_lt (by simp)) ?_)
          intro v' w9 hown hgrow _
          have hlc := Lib.hid (show ([0] ++ l.drop 1).length = 1 from by rw [List.length_append, hdl.out, List.length_singleton] <;> omega)
          have oc : Owns w9 v.heap.size v' ([0] ++ l.drop 1) := owns_lit0 hlc.out hown
          have q : Below v.heap.size v w9 := ((Below.refl _ _).alloc (Nat.le_refl _) _).grown hgrow (Nat.le_of_lt (by simp)) (fun k hk => by simp [Value.ownBlock] at hk; omega)
          replace bb := Lib.hid (bel_after bb.out q)
          replace hr := Lib.hid (hr.out.after q)
          replace bc := Lib.hid (bel_after bc.out q)
          replace k0 := k0.after q
          replace kB := kB.after q
          replace kC := kC.after q
          have hz9 := q.size
          clear q hown hgrow hnews hlit x0 x1 x2 x3 x4 x5 y0 y1 y2 y3 y4 y5
          obtain ⟨pa, pd, rfl, _⟩ := oc.view
          rw [hlc.out] at oc
          rw [hlc.out]
          obtain ⟨y0, y1, y2, y3, y4, y5⟩ := id kC
          obtain ⟨x0, x1, x2, x3, x4, x5⟩ := id kB
          have nSS : S ≠ S + 1 := by omega
          go_wp2_with fail
          clear x0 x1 x2 x3 x4 x5 y0 y1 y2 y3 y4 y5
          have g := grown_set w9 (S + 1) 0 (.slice pa 1 pd)
          replace kB := kB.grown g (by simp)
          replace kC := kC.put0 (.slice pa 1 pd)
          replace oc := oc.far g hkC
          replace bc := Lib.hid (bel_grown bc.out g (by omega))
          clear g k0
          generalize w9.setCell ⟨S + 1, 0, none⟩ (.slice pa 1 pd) = u at *
          refine (impl_arm _ _ _ 1 1 n2 c2 (n3 - 1) (c3 - 1) l lo (hi.drop 1) _ h1.out h2.out (by (rw [List.length_drop, h3.out])) (by omega) ⟨hr1.out.1.after bc.out, hr1.out.2.1.after bc.out, hRb1.out.after bc.out⟩).mono ?_
          rintro e w11 ⟨rfl, q⟩
          rw [hf1.out]
          replace kC := kC.after q
          replace bc := Lib.hid (bel_after bc.out q)
          replace oc := Lib.hid (oc.after q)
          clear q
          obtain ⟨y0, y1, y2, y3, y4, y5⟩ := id kC
          go_wp2_with fail
          clear y0 y1 y2 y3 y4 y5
          refine (impl_arm _ _ _ 1 pd n2 c2 n3 c3 ([0] ++ l.drop 1) lo hi _ hlc.out h2.out h3.out (by omega) ⟨oc.out.row, hr1.out.2.1.after bc.out, hr1.out.2.2.after bc.out⟩).mono ?_
          rintro e w12 ⟨rfl, q⟩
          rw [hf2.out]
          replace bc := Lib.hid (bel_after bc.out q)
          clear q
          go_wp2_with fail
          go_ret
          exact ⟨rfl, bel_after hq1.out bc.out⟩
        · have hRc := Lib.hid (row_cut1 hr.out.1)
          have d6 : (1 : Int) < (c1 : Int) := by omega
          have hnews := Lib.hid (row_news hRc.out (bel_new v (.cells #[.int .i64 0] 3)))
          have hlit := Lib.hid (World.ownsRow_lit (base := v.heap.size) (e := 3) (size := 1) v #[.int .i64 0] 1 (Nat.le_refl _) (by unfold maxLen; omega) rfl)
          have hkK := k0.lt
          have hkC := kC.lt
          have hkB := kB.lt
          have hdl := Lib.hid (show (l.drop 1).length = n1 - 1 from by rw [List.length_drop, h1.out])
          obtain ⟨x0, x1, x2, x3, x4, x5⟩ := id k0
          obtain ⟨y0, y1, y2, y3, y4, y5⟩ := id kC
          go_wp2_with (at_builtin; refine wpList_append_own _ rfl _ _ 23 rfl v.heap.size 3 i0 (.int .i64 0) 1 8 Try.underlying23 hi0 hz0 hz1 hz2 rfl (by decide) _ _ _ rfl hlit.out ⟨b1, o1 + 1, none⟩ (n1 - 1) (c1 - 1) ((l.drop 1).map (Value.int .i64)) rfl (by (rw [List.length_map, hdl.out]) <;> omega) hnews.out (int_one _) (by unfold maxLen; omega) (by omega) (Nat.le_of_lt (by simp)) ?_)
          intro v' w9 hown hgrow _
          have hlc := Lib.hid (show ([0] ++ l.drop 1).length = n1 from by rw [List.length_append, hdl.out, List.length_singleton] <;> omega)
          have oc : Owns w9 v.heap.size v' ([0] ++ l.drop 1) := owns_lit0 hlc.out hown
          have q : Below v.heap.size v w9 := ((Below.refl _ _).alloc (Nat.le_refl _) _).grown hgrow (Nat.le_of_lt (by simp)) (fun k hk => by simp [Value.ownBlock] at hk; omega)
          replace bb := Lib.hid (bel_after bb.out q)
          replace hr := Lib.hid (hr.out.after q)
          replace bc := Lib.hid (bel_after bc.out q)
          replace k0 := k0.after q
          replace kB := kB.after q
          replace kC := kC.after q
          have hz9 := q.size
          clear q hown hgrow hnews hlit x0 x1 x2 x3 x4 x5 y0 y1 y2 y3 y4 y5
          obtain ⟨pa, pd, rfl, _⟩ := oc.view
          rw [hlc.out] at oc
          rw [hlc.out]
          obtain ⟨y0, y1, y2, y3, y4, y5⟩ := id kC
          obtain ⟨x0, x1, x2, x3, x4, x5⟩ := id kB
          have nSS : S ≠ S + 1 := by omega
          go_wp2_with fail
          clear x0 x1 x2 x3 x4 x5 y0 y1 y2 y3 y4 y5
          have g := grown_set w9 (S + 1) 0 (.slice pa n1 pd)
          replace kB := kB.grown g (by simp)
          replace kC := kC.put0 (.slice pa n1 pd)
          replace oc := oc.far g hkC
          replace bc := Lib.hid (bel_grown bc.out g (by omega))
          clear g k0
          generalize w9.setCell ⟨S + 1, 0, none⟩ (.slice pa n1 pd) = u at *
          refine (impl_arm _ _ _ n1 c1 n2 c2 (n3 - 1) (c3 - 1) l lo (hi.drop 1) _ h1.out h2.out (by (rw [List.length_drop, h3.out])) (by omega) ⟨hr1.out.1.after bc.out, hr1.out.2.1.after bc.out, hRb1.out.after bc.out⟩).mono ?_
          rintro e w11 ⟨rfl, q⟩
          rw [hf1.out]
          replace kC := kC.after q
          replace bc := Lib.hid (bel_after bc.out q)
          replace oc := Lib.hid (oc.after q)
          clear q
          obtain ⟨y0, y1, y2, y3, y4, y5⟩ := id kC
          go_wp2_with fail
          clear y0 y1 y2 y3 y4 y5
          refine (impl_arm _ _ _ n1 pd n2 c2 n3 c3 ([0] ++ l.drop 1) lo hi _ hlc.out h2.out h3.out (by omega) ⟨oc.out.row, hr1.out.2.1.after bc.out, hr1.out.2.2.after bc.out⟩).mono ?_
          rintro e w12 ⟨rfl, q⟩
          rw [hf2.out]
          replace bc := Lib.hid (bel_after bc.out q)
          clear q
          go_wp2_with fail
          go_ret
          exact ⟨rfl, bel_after hq1.out bc.out⟩
theorem own : ownKnob Try.prog.godebug = none := by kernel_rfl
theorem laidOut : laidOutB Try.prog = true := by kernel_rfl
set_option maxRecDepth 100000 in
theorem lifted (os : Os) (started : os.Started) (H : Type) (enc : TypeId × Value → H) :
    ReturnsInHanded {} Try.checked os 3 .any (Rows.fnArmValidSpec.pre6 enc Try.prog Try.f3 Rows.fnArmValidRow.domain false) (Rows.fnArmValidSpec.post enc Try.prog Try.f3 false true false false) := by
  refine returnsInHanded_of_change (C := Try.checked) own started (by kernel_rfl) Try.func3
    (ChangeSpec.witness6 (enc := enc) (C := Try.checked) false ⟨#[], #[.slice none 0 0], []⟩ 8 (by kernel_rfl) (by kernel_rfl) (by kernel_rfl) (by kernel_rfl)) ?_
  intro W base args ds gs before hval0 hW hcnd _
  have hval : ∀ (j : Nat) t v, Try.f3.params[j]? = some t → args[j]? = some v → Value.okWide Try.prog W .any base t v := hval0
  have hW' := hW
  obtain ⟨p, q, hA0, hV, rfl, hfz, hnd⟩ := hW
  have hA : DataW.TrodAll enc Try.prog W 0 (fun _ => true) true Try.f3.params.toList args.toList ds p := hA0
  rw [Try.params3] at hA hval
  obtain ⟨v0_, vs0, d0, ds0, p0, q0, hargs, rfl, rfl, h0, r0⟩ := trodAll_cons hA
  obtain ⟨rfl, rfl, rfl⟩ := trodAll_nil r0
  obtain rfl : args = #[v0_] := by cases args; simp_all
  obtain ⟨rfl, rfl⟩ := trodVars_none hV
  obtain ⟨a0, len0, cap0, rfl⟩ := okWide_slice Try.underlying22 (hval 0 22 v0_ rfl rfl)
  have k0 := h0
  have lt0 : ∀ x ∈ p0, x.block < W.heap.size := by obtain ⟨m, hm⟩ := k0; exact DataW.trod_lt m _ _ _ hm
  obtain ⟨z0, w0⟩ : ∃ zs, IsRow .u8 W a0 len0 cap0 zs := by
    obtain ⟨fuel, hf⟩ := h0
    rcases open_ints Try.underlying22 Try.underlying5 (by kernel_rfl) hf with ⟨hcs, _⟩ | ⟨x, l, c, zs, hcs, _, hl, hm, hz, _, hcell, hwz⟩
    · simp [Value.cells] at hcs
      obtain ⟨rfl, rfl, rfl⟩ := hcs
      exact ⟨[], .inl ⟨rfl, rfl, rfl, rfl⟩⟩
    · simp [Value.cells] at hcs
      obtain ⟨rfl, rfl, rfl⟩ := hcs
      exact ⟨zs, .inr ⟨_, rfl, hl, hm, by simpa using hz, hcell, hwz⟩⟩
  clear hA0 hval0
  refine (walk a0 len0 cap0 z0 W w0).mono fun e W' ⟨he, bel⟩ => ?_
  subst he
  exact ⟨_, rfl, _, _, _, [], _, [], hW', trodAll_mk1 (shut_bool Try.underlying4 _), (trodAll_cons_mk (Below.trod laidOut (by kernel_rfl) (of_decide_eq_true (by kernel_rfl)) k0 bel lt0) trodAll_mk0), rfl, bel.frame _, fun h => by cases h⟩
theorem over : Rows.fnArmValidRow.holds Try.pinned (OpenSpec.ofChange Rows.fnArmValidSpec) :=
  OpenClaim.holds_of_wide 3 Try.f3 rfl rfl rfl rfl rfl rfl rfl ⟨rfl, rfl, rfl, rfl, rfl⟩ rfl rfl rfl rfl rfl (by kernel_rfl) Try.func3 (by kernel_rfl)
    (of_decide_eq_true (by kernel_rfl)) (by unfold Func.isWrapper; first | (rw [if_pos (by decide +kernel)]; kernel_rfl) | (rw [if_neg (by decide +kernel)]; exact ⟨rfl, rfl⟩))
    (fun os started H enc _ => lifted os started H enc)
theorem proved : Rows.FnArmValidSaid := over
#print axioms proved
end Go.Proofs.Ytnkjnphmpembaaa.fnArmValid
