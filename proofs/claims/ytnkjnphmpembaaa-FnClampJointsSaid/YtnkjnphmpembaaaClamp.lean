/- Contracts of ClampJoints, in both packages. -/
import Derived.Test.YtnkjnphmpembaaaClone
import Derived.StillTailTactics
import Derived.Deep.RegionHeld3
namespace Go.Proofs.Ytnkjnphmpembaaa
open Go.ChangeShapes Go.WideShapes Go.ChangeAt Go.RowKit
set_option linter.unusedVariables false
def M.clip (n lo hi : Int) : Int := max lo (min hi n)
theorem M.clip_at {n lo hi : Int} (h : lo ≤ hi) : lo ≤ M.clip n lo hi ∧ M.clip n lo hi ≤ hi ∧ (lo ≤ n → n ≤ hi → M.clip n lo hi = n) := by unfold M.clip; omega
theorem impl_clamp (n lo hi : Int) (w : World) : Calls Try.prog 50 #[.int .i64 n, .int .i64 lo, .int .i64 hi] w fun e w' => e = .returned (.int .i64 (M.clip n lo hi)) ∧ w = w' := by
  go_enter Try.func50, Try.ntmps50
  go_wp2
  all_goals
    go_ret
    exact ⟨ret_int (by unfold M.clip; omega), rfl⟩
theorem l1_clip (n lo hi : Int) (w : World) : Calls Try.prog 48 #[.int .i64 n, .int .i64 lo, .int .i64 hi] w fun e w' => e = .returned (.int .i64 (M.clip n lo hi)) ∧ w = w' := by
  go_enter Try.func48, Try.ntmps48
  go_wp2
  all_goals
    go_ret
    exact ⟨ret_int (by unfold M.clip; omega), rfl⟩
/-- the first k clamped angles -/
def M.clipT (lo hi j : List Int) (k : Nat) : List Int := (List.range k).map fun i => M.clip (j.getD i 0) (lo.getD i 0) (hi.getD i 0)
theorem M.clipT_len (lo hi j : List Int) (k : Nat) : (M.clipT lo hi j k).length = k := by simp [M.clipT]
theorem M.clipT_succ (lo hi j : List Int) (k : Nat) : M.clipT lo hi j (k + 1) = M.clipT lo hi j k ++ [M.clip (j.getD k 0) (lo.getD k 0) (hi.getD k 0)] := by simp [M.clipT, List.range_succ]
theorem M.clipT_at {lo hi j : List Int} {k i : Nat} (h : i < k) : (M.clipT lo hi j k).getD i 0 = M.clip (j.getD i 0) (lo.getD i 0) (hi.getD i 0) := by
  rw [List.getD_eq_getElem?_getD, List.getElem?_eq_getElem (by rw [M.clipT_len]; exact h)]
  simp [M.clipT]
theorem clip_set {lo hi j : List Int} {k : Nat} (hk : k < j.length) : (M.clipT lo hi j k ++ j.drop k).set k (M.clip (j.getD k 0) (lo.getD k 0) (hi.getD k 0)) = M.clipT lo hi j (k + 1) ++ j.drop (k + 1) := by
  rw [List.set_append_right _ _ (by rw [M.clipT_len]; exact Nat.le_refl _), M.clipT_len, Nat.sub_self]
  rw [List.drop_eq_getElem_cons hk, List.set_cons_zero, M.clipT_succ, List.append_assoc]
  rfl
theorem clip_get {lo hi j : List Int} {k : Nat} (hk : k < j.length) : (M.clipT lo hi j k ++ j.drop k).getD k 0 = j.getD k 0 := by
  rw [List.getD_eq_getElem?_getD, List.getElem?_append_right (by rw [M.clipT_len]; exact Nat.le_refl _), M.clipT_len, Nat.sub_self, List.getElem?_drop, List.getD_eq_getElem?_getD]
  rfl
def M.clamp (l lo hi j : List Int) : List Int := if M.armB l lo hi = true ∧ j.length = l.length then M.clipT lo hi j j.length else []
theorem M.clamp_no {l lo hi j : List Int} (h : M.armB l lo hi = false ∨ ¬ j.length = l.length) : [] = M.clamp l lo hi j := by
  unfold M.clamp; rw [if_neg]; rintro ⟨h1, h2⟩; rcases h with h | h
  · rw [h] at h1; cases h1
  · exact h h2
theorem M.clamp_yes {l lo hi j : List Int} (h : M.armB l lo hi = true) (h2 : j.length = l.length) : M.clipT lo hi j j.length = M.clamp l lo hi j := by unfold M.clamp; rw [if_pos ⟨h, h2⟩]
theorem M.clamp_len (l lo hi j : List Int) : (M.clamp l lo hi j).length ≤ j.length := by
  unfold M.clamp
  split
  · rw [M.clipT_len]; exact Nat.le_refl _
  · simp
theorem ints_ret {w w' : World} {v : Value} {l l' : List Int} (he : l' = l) (ho : Owns w' w.heap.size v l') (hb : Below w.heap.size w w') : IntsOut w l (.returned v) w' := ⟨v, rfl, he ▸ ho, hb⟩
set_option maxHeartbeats 4000000 in
theorem impl_clampj (a1 a2 a3 aj : Option Addr) (n1 c1 n2 c2 n3 c3 m cm : Nat) (l lo hi j : List Int) (w : World) (h1 : l.length = n1) (h2 : lo.length = n2) (h3 : hi.length = n3) (h4 : j.length = m) (hm : n1 ≤ 1000000000 ∧ n2 ≤ 1000000000 ∧ n3 ≤ 1000000000) (hm4 : m ≤ 1000000000) (hr : ArmAt w w.heap.size a1 a2 a3 l lo hi) (hj : Row w w.heap.size aj j) :
    Calls Try.prog 30 #[.agg #[.slice a1 n1 c1, .slice a2 n2 c2, .slice a3 n3 c3], .slice aj m cm] w (IntsOut w (M.clamp l lo hi j)) := by
  obtain ⟨i0, hi0, hz0, hz1, hz2⟩ := info_parts infoInt
  obtain ⟨m1, m2, m3⟩ := hm
  replace h1 := Lib.hid h1
  replace h2 := Lib.hid h2
  replace h3 := Lib.hid h3
  replace h4 := Lib.hid h4
  replace hr := Lib.hid hr
  replace hj := Lib.hid hj
  have hrw := hr
  have hjw := hj
  have bb := Lib.hid (Below.refl w.heap.size w)
  have k0 := Cell3.new w (.slice a1 n1 c1) (.slice a2 n2 c2) (.slice a3 n3 c3) 25
  replace bb := Lib.hid (bel_after bb.out (bel_new w (.cells #[.slice a1 n1 c1, .slice a2 n2 c2, .slice a3 n3 c3] 25)))
  replace hr := Lib.hid (hr.out.after (bel_new w (.cells #[.slice a1 n1 c1, .slice a2 n2 c2, .slice a3 n3 c3] 25)))
  replace hj := Lib.hid (hj.out.after (bel_new w (.cells #[.slice a1 n1 c1, .slice a2 n2 c2, .slice a3 n3 c3] 25)))
  go_enter Try.func30, Try.ntmps30
  obtain ⟨x0, x1, x2, x3, x4, x5⟩ := id k0
  go_wp2_with fail
  clear x0 x1 x2 x3 x4 x5
  refine (impl_arm a1 a2 a3 n1 c1 n2 c2 n3 c3 l lo hi _ h1.out h2.out h3.out ⟨m1, m2, m3⟩ hr.out).mono ?_
  rintro e wl ⟨rfl, q⟩
  replace k0 := k0.after q
  replace bb := Lib.hid (bel_after bb.out q)
  replace hr := Lib.hid (hr.out.after q)
  replace hj := Lib.hid (hj.out.after q)
  clear q
  cases hA : M.armB l lo hi
  · have hfin := Lib.hid (M.clamp_no (j := j) (.inl hA))
    clear hA
    obtain ⟨x0, x1, x2, x3, x4, x5⟩ := id k0
    go_wp2_with fail
    go_ret
    exact ints_ret hfin.out (Owns.nil _ _) bb.out
  · obtain ⟨⟨⟨e1, e2⟩, e3, e4⟩, _⟩ := M.armB_true hA
    rw [h1.out] at e1 e2 e3 e4
    rw [h2.out] at e3
    rw [h3.out] at e4
    have f1 : n2 ≤ n1 := by omega
    have f2 : n1 ≤ n2 := by omega
    have f3 : n3 ≤ n1 := by omega
    have f4 : n1 ≤ n3 := by omega
    clear e3 e4
    replace hA := Lib.hid hA
    by_cases hl : m = n1
    · have hl1 : ((m : Int) != (n1 : Int)) = false := by simp; omega
      have hl2 : m ≤ n1 := by omega
      have hl3 : n1 ≤ m := by omega
      have hfin := Lib.hid (M.clamp_yes (lo := lo) (hi := hi) (j := j) hA.out (by rw [h1.out, h4.out]; exact hl))
      rw [h4.out] at hfin
      clear hl
      obtain ⟨b1, o1, rfl⟩ := hr.out.1.form (by rw [h1.out]; omega)
      obtain ⟨b2, o2, rfl⟩ := hr.out.2.1.form (by rw [h2.out]; omega)
      obtain ⟨b3, o3, rfl⟩ := hr.out.2.2.form (by rw [h3.out]; omega)
      obtain ⟨b4, o4, rfl⟩ := hj.out.form (by rw [h4.out]; omega)
      obtain ⟨x0, x1, x2, x3, x4, x5⟩ := id k0
      go_wp2_with fail
      clear x0 x1 x2 x3 x4 x5
      refine (clone_ints _ m cm j _ h4.out (by omega) hj.out).mono ?_
      rintro e w3 hq
      obtain ⟨p, d, rfl, om, q⟩ := ints_view h4.out hq
      have hk0 := k0.lt
      have k3 := k0.after q
      replace q := Lib.hid q
      clear hq
      obtain ⟨g, rfl⟩ : ∃ g, p = some ⟨g, 0, none⟩ := by
        rcases om.2 with ⟨u, v⟩ | ⟨g, _, _, u, _⟩
        · rw [h4.out] at v; omega
        · injection u with u; exact ⟨g, u⟩
      replace om := Lib.hid om
      have hg := (om.out.lt (k := g) rfl).1
      obtain ⟨x0, x1, x2, x3, x4, x5⟩ := id k3
      go_wp2_with fail
      clear x0 x1 x2 x3 x4 x5 k3
      go_loopw [6, 22] (fun _ i wr => ∃ k : Nat, i = .int .i64 k ∧ k ≤ m ∧ Hid (Owns wr wl.heap.size (.slice (some ⟨g, 0, none⟩) m d) (M.clipT lo hi j k ++ j.drop k)) ∧ Hid (Below wl.heap.size wl wr)) (fun _ i _ => m - (intOf i).toNat)
      case atStart => exact ⟨0, rfl, Nat.zero_le _, by exact om, q⟩
      case round =>
        obtain ⟨k, rfl, hk, ho, hb⟩ := hrel
        have hlen : (M.clipT lo hi j k ++ j.drop k).length = m := by rw [List.length_append, M.clipT_len, List.length_drop, h4.out]; omega
        replace hlen := Lib.hid hlen
        by_cases hlt : k < m
        · obtain ⟨x0, x1, x2, x3, x4, x5⟩ := k0.after hb.out
          have y2 := hr.out.2.1.cell hb.out (k := k) (by rw [h2.out]; omega)
          have y3 := hr.out.2.2.cell hb.out (k := k) (by rw [h3.out]; omega)
          obtain ⟨y1, z1, z2, z3⟩ := ho.out.cellAt hlen.out k hlt
          rw [clip_get (by rw [h4.out]; exact hlt)] at y1
          have hst := Lib.hid (ho.out.put hlen.out k (M.clip (j.getD k 0) (lo.getD k 0) (hi.getD k 0)))
          have hsu := Lib.hid (clip_set (lo := lo) (hi := hi) (j := j) (k := k) (by rw [h4.out]; exact hlt))
          have hk2 : (k : Int) < (n2 : Int) := by omega
          have hk3 : (k : Int) < (n3 : Int) := by omega
          have hk4 : (k : Int) < (m : Int) := by omega
          generalize j.getD k 0 = x at *
          generalize lo.getD k 0 = y at *
          generalize hi.getD k 0 = z at *
          clear z2 z3 ho
          go_wp2_with fail
          refine wp_region_still_tail 18 (by kernel_rfl) (by kernel_rfl) ?_
          simp only [List.take_succ_cons, List.take_zero, List.drop_succ_cons, List.drop_zero]
          change wpStill _ _ (World.drew _) (fun a' => wpList _ _ _ _ a' (World.drew _)) _ _
          repeat still_step
          still_call (quiet_same (impl_clamp x y z _))
          repeat still_step
          refine wpStill_nil ?_
          go_wp2_with fail
          go_roundw
          case rel => exact ⟨k + 1, by go_num, by omega, by rw [← hsu.out]; exact hst.out, (hb.out.setCell (p := ⟨g, k, none⟩) hg _).drew⟩
          case measure => simp [intOf]; omega
        · obtain rfl : k = m := by omega
          have hfo : Owns wr wl.heap.size (.slice (some ⟨g, 0, none⟩) k d) (M.clipT lo hi j k) := by
            have := ho.out
            rwa [List.drop_of_length_le (by rw [h4.out]; exact Nat.le_refl _), List.append_nil] at this
          replace hfo := Lib.hid hfo
          clear ho
          go_wp2_with fail
          go_ret
          exact ints_ret hfin.out (hfo.out.base2 bb.out.size) (bel_after bb.out hb.out)
    · have hl1 : ((m : Int) != (n1 : Int)) = true := by simp; omega
      have hfin := Lib.hid (M.clamp_no (l := l) (lo := lo) (hi := hi) (j := j) (.inr (by rw [h4.out, h1.out]; exact hl)))
      clear hl
      obtain ⟨x0, x1, x2, x3, x4, x5⟩ := id k0
      go_wp2_with fail
      go_ret
      exact ints_ret hfin.out (Owns.nil _ _) bb.out
set_option maxHeartbeats 4000000 in
theorem spec_clampj (a1 a2 a3 aj : Option Addr) (n1 c1 n2 c2 n3 c3 m cm : Nat) (l lo hi j : List Int) (w : World) (h1 : l.length = n1) (h2 : lo.length = n2) (h3 : hi.length = n3) (h4 : j.length = m) (hm : n1 ≤ 1000000000 ∧ n2 ≤ 1000000000 ∧ n3 ≤ 1000000000) (hm4 : m ≤ 1000000000) (hr : ArmAt w w.heap.size a1 a2 a3 l lo hi) (hj : Row w w.heap.size aj j) :
    Calls Try.prog 29 #[.agg #[.slice a1 n1 c1, .slice a2 n2 c2, .slice a3 n3 c3], .slice aj m cm] w (IntsOut w (M.clamp l lo hi j)) := by
  obtain ⟨i0, hi0, hz0, hz1, hz2⟩ := info_parts infoInt
  obtain ⟨m1, m2, m3⟩ := hm
  replace h1 := Lib.hid h1
  replace h2 := Lib.hid h2
  replace h3 := Lib.hid h3
  replace h4 := Lib.hid h4
  replace hr := Lib.hid hr
  replace hj := Lib.hid hj
  have hrw := hr
  have hjw := hj
  have bb := Lib.hid (Below.refl w.heap.size w)
  have k0 := Cell3.new w (.slice a1 n1 c1) (.slice a2 n2 c2) (.slice a3 n3 c3) 25
  replace bb := Lib.hid (bel_after bb.out (bel_new w (.cells #[.slice a1 n1 c1, .slice a2 n2 c2, .slice a3 n3 c3] 25)))
  replace hr := Lib.hid (hr.out.after (bel_new w (.cells #[.slice a1 n1 c1, .slice a2 n2 c2, .slice a3 n3 c3] 25)))
  replace hj := Lib.hid (hj.out.after (bel_new w (.cells #[.slice a1 n1 c1, .slice a2 n2 c2, .slice a3 n3 c3] 25)))
  have om := Lib.hid (Owns.made (w := (w.alloc (.cells #[.slice a1 n1 c1, .slice a2 n2 c2, .slice a3 n3 c3] 25))) (Nat.le_refl _))
  have e0 := Lib.hid (World.size_alloc w (.cells #[.slice a1 n1 c1, .slice a2 n2 c2, .slice a3 n3 c3] 25))
  rw [e0.out] at om
  replace k0 := k0.after (bel_new (w.alloc (.cells #[.slice a1 n1 c1, .slice a2 n2 c2, .slice a3 n3 c3] 25)) (.cells #[] 3))
  replace bb := Lib.hid (bel_after bb.out (bel_new (w.alloc (.cells #[.slice a1 n1 c1, .slice a2 n2 c2, .slice a3 n3 c3] 25)) (.cells #[] 3)))
  replace hr := Lib.hid (hr.out.after (bel_new (w.alloc (.cells #[.slice a1 n1 c1, .slice a2 n2 c2, .slice a3 n3 c3] 25)) (.cells #[] 3)))
  replace hj := Lib.hid (hj.out.after (bel_new (w.alloc (.cells #[.slice a1 n1 c1, .slice a2 n2 c2, .slice a3 n3 c3] 25)) (.cells #[] 3)))
  go_enter Try.func29, Try.ntmps29
  obtain ⟨x0, x1, x2, x3, x4, x5⟩ := id k0
  go_wp2_with fail
  clear x0 x1 x2 x3 x4 x5
  refine (spec_arm a1 a2 a3 n1 c1 n2 c2 n3 c3 l lo hi _ h1.out h2.out h3.out ⟨m1, m2, m3⟩ hr.out).mono ?_
  rintro e wl ⟨rfl, q⟩
  replace k0 := k0.after q
  replace bb := Lib.hid (bel_after bb.out q)
  replace hr := Lib.hid (hr.out.after q)
  replace hj := Lib.hid (hj.out.after q)
  replace om := Lib.hid (om.out.after q)
  clear q
  cases hA : M.armB l lo hi
  · have hfin := Lib.hid (M.clamp_no (j := j) (.inl hA))
    clear hA
    obtain ⟨x0, x1, x2, x3, x4, x5⟩ := id k0
    go_wp2_with fail
    go_ret
    exact ints_ret hfin.out (om.out.base2 (by omega)) bb.out
  · obtain ⟨⟨⟨e1, e2⟩, e3, e4⟩, _⟩ := M.armB_true hA
    rw [h1.out] at e1 e2 e3 e4
    rw [h2.out] at e3
    rw [h3.out] at e4
    have f1 : n2 ≤ n1 := by omega
    have f2 : n1 ≤ n2 := by omega
    have f3 : n3 ≤ n1 := by omega
    have f4 : n1 ≤ n3 := by omega
    clear e3 e4
    replace hA := Lib.hid hA
    by_cases hl : m = n1
    · have hl1 : ((m : Int) != (n1 : Int)) = false := by simp; omega
      have hl2 : m ≤ n1 := by omega
      have hl3 : n1 ≤ m := by omega
      have hfin := Lib.hid (M.clamp_yes (lo := lo) (hi := hi) (j := j) hA.out (by rw [h1.out, h4.out]; exact hl))
      rw [h4.out] at hfin
      clear hl
      obtain ⟨b1, o1, rfl⟩ := hr.out.1.form (by rw [h1.out]; omega)
      obtain ⟨b2, o2, rfl⟩ := hr.out.2.1.form (by rw [h2.out]; omega)
      obtain ⟨b3, o3, rfl⟩ := hr.out.2.2.form (by rw [h3.out]; omega)
      obtain ⟨b4, o4, rfl⟩ := hj.out.form (by rw [h4.out]; omega)
      obtain ⟨x0, x1, x2, x3, x4, x5⟩ := id k0
      go_wp2_with fail
      clear x0 x1 x2 x3 x4 x5
      have hsl : w.heap.size + 1 < wl.heap.size := (om.out.lt (k := w.heap.size + 1) rfl).2
      go_loopw [5, 6] (fun v i wr => ∃ k : Nat, i = .int .i64 k ∧ k ≤ m ∧ Hid (Owns wr (w.heap.size + 1) v (M.clipT lo hi j k)) ∧ Hid (Below (w.heap.size + 1) wl wr)) (fun _ i _ => m - (intOf i).toNat)
      case atStart => exact ⟨0, rfl, Nat.zero_le _, om, Below.refl _ _⟩
      case round =>
        obtain ⟨k, rfl, hk, ho, hb⟩ := hrel
        by_cases hlt : k < m
        · have hbw := Lib.hid (bb.out.trans (hb.out.mono (Nat.le_succ _)))
          obtain ⟨x0, x1, x2, x3, x4, x5⟩ := k0.below hb.out (Nat.lt_succ_self _)
          have y1 := hjw.out.cell hbw.out (k := k) (by rw [h4.out]; exact hlt)
          have y2 := hrw.out.2.1.cell hbw.out (k := k) (by rw [h2.out]; omega)
          have y3 := hrw.out.2.2.cell hbw.out (k := k) (by rw [h3.out]; omega)
          have hsu := Lib.hid (M.clipT_succ lo hi j k)
          have hk2 : (k : Int) < (n2 : Int) := by omega
          have hk3 : (k : Int) < (n3 : Int) := by omega
          have hk4 : (k : Int) < (m : Int) := by omega
          have hlen := Lib.hid (M.clipT_len lo hi j k)
          generalize j.getD k 0 = x at *
          generalize lo.getD k 0 = y at *
          generalize hi.getD k 0 = z at *
          go_wp2_with fail
          have hod := Lib.hid (show ∀ o, World.ownsRow (wr.alloc o).drew (w.heap.size + 1) 3 1 _ (M.clipT lo hi j k).length ((M.clipT lo hi j k).map (Value.int .i64)) from fun o => World.ownsRow.alloc ho.out o)
          have hbd := Lib.hid (hb.out.drew)
          have hos := Lib.hid (show Owns wr.drew (w.heap.size + 1) _ (M.clipT lo hi j k) from ho.out)
          have hsd : w.heap.size + 1 < wr.heap.size := Nat.lt_of_lt_of_le hsl hb.out.size
          obtain ⟨t1, t2, t3⟩ : b4 < w.heap.size ∧ b2 < w.heap.size ∧ b3 < w.heap.size := ⟨hjw.out.lt (by rw [h4.out]; omega), hrw.out.2.1.lt (by rw [h2.out]; omega), hrw.out.2.2.lt (by rw [h3.out]; omega)⟩
          have n1' : wr.heap.size ≠ w.heap.size := by omega
          have n2' : wr.heap.size ≠ b4 := by omega
          have n3' : wr.heap.size ≠ b2 := by omega
          have n4' : wr.heap.size ≠ b3 := by omega
          have n5' : w.heap.size ≠ wr.heap.size := by omega
          have n6' : b4 ≠ wr.heap.size := by omega
          have n7' : b2 ≠ wr.heap.size := by omega
          have n8' : b3 ≠ wr.heap.size := by omega
          have s : (((wr.drew.cell? ⟨w.heap.size, 1, none⟩ = some (.slice (some ⟨b2, o2, none⟩) n2 c2) ∧ wr.drew.cell? ⟨w.heap.size, 2, none⟩ = some (.slice (some ⟨b3, o3, none⟩) n3 c3)) ∧ wr.drew.cell? ⟨b4, o4 + k, none⟩ = some (.int .i64 x)) ∧ wr.drew.cell? ⟨b2, o2 + k, none⟩ = some (.int .i64 y)) ∧ wr.drew.cell? ⟨b3, o3 + k, none⟩ = some (.int .i64 z) := ⟨⟨⟨⟨x1, x2⟩, y1⟩, y2⟩, y3⟩
          clear x0 x3 x4 x5 ho hb
          go_region_held3 (fun w' => (((w'.cell? ⟨w.heap.size, 1, none⟩ = some (.slice (some ⟨b2, o2, none⟩) n2 c2) ∧ w'.cell? ⟨w.heap.size, 2, none⟩ = some (.slice (some ⟨b3, o3, none⟩) n3 c3)) ∧ w'.cell? ⟨b4, o4 + k, none⟩ = some (.int .i64 x)) ∧ w'.cell? ⟨b2, o2 + k, none⟩ = some (.int .i64 y)) ∧ w'.cell? ⟨b3, o3 + k, none⟩ = some (.int .i64 z)) (first | (with_reducible assumption) | go_keep) (first | (go_at_call 48; refine (l1_clip _ _ _ _).mono ?_; rintro e w' ⟨rfl, rfl⟩) | (rw [if_pos (by rfl)]; refine wp_append_own _ _ _ 23 rfl (w.heap.size + 1) 3 i0 (.int .i64 0) 1 8 Try.underlying23 hi0 hz0 hz1 hz2 rfl (by decide) _ _ _ rfl (hod.out _) ⟨wr.heap.size, 0, none⟩ 1 1 [.int .i64 (M.clip x y z)] rfl rfl (one_newd _ _ _) (one_one _) (by rw [hlen.out]; unfold maxLen; omega) (by rw [hlen.out]; omega) (by simp; omega) ?_; intro v' w9 hown' hgrow _; have hp := Lib.hid (hos.out.pushed hbd.out (by show w.heap.size + 1 ≤ wr.heap.size; omega) hown' hgrow); have s := keep5 s hos.out hgrow (by omega) (by omega) (by omega) (by omega)))
          all_goals
            go_wp2_with fail
            go_roundw
            case rel => exact ⟨k + 1, by go_num, by omega, by rw [hsu.out]; exact hp.out.1, hp.out.2⟩
            case measure => simp [intOf]; omega
        · obtain rfl : k = m := by omega
          go_wp2_with fail
          go_ret
          exact ints_ret hfin.out (ho.out.base2 (by omega)) (bb.out.trans (hb.out.mono (Nat.le_succ _)))
    · have hl1 : ((m : Int) != (n1 : Int)) = true := by simp; omega
      have hfin := Lib.hid (M.clamp_no (l := l) (lo := lo) (hi := hi) (j := j) (.inr (by rw [h4.out, h1.out]; exact hl)))
      clear hl
      obtain ⟨x0, x1, x2, x3, x4, x5⟩ := id k0
      go_wp2_with fail
      go_ret
      exact ints_ret hfin.out (om.out.base2 (by omega)) bb.out
end Go.Proofs.Ytnkjnphmpembaaa
