/- Contracts of the reach of an arm, in both packages, and of slices.Max. -/
import Derived.Test.YtmainffjekjlnaaDoorJoints
namespace Go.Proofs.YtmainffjekjlnaaDoor
open Go.ChangeShapes Go.WideShapes Go.ChangeAt Go.RowKit
set_option linter.unusedVariables false
def M.sumT (l : List Int) : Nat → Int
  | 0 => 0
  | k + 1 => M.sumT l k + l.getD k 0
def M.maxT (l : List Int) : Nat → Int
  | 0 => 0
  | k + 1 => max (M.maxT l k) (l.getD k 0)
theorem M.sumT_bd {l : List Int} {B : Int} : ∀ {k : Nat}, (∀ i, i < k → 1 ≤ l.getD i 0 ∧ l.getD i 0 ≤ B) → (k : Int) ≤ M.sumT l k ∧ M.sumT l k ≤ B * k := by
  intro k
  induction k with
  | zero => intro _; simp [M.sumT]
  | succ k ih =>
    intro h
    have h1 := ih (fun i hi => h i (by omega))
    have h2 := h k (by omega)
    unfold M.sumT
    rw [Int.natCast_succ, Int.mul_add, Int.mul_one]
    omega
theorem M.maxT_bd {l : List Int} {B : Int} (hB : 0 ≤ B) : ∀ {k : Nat}, (∀ i, i < k → 1 ≤ l.getD i 0 ∧ l.getD i 0 ≤ B) → 0 ≤ M.maxT l k ∧ M.maxT l k ≤ B := by
  intro k
  induction k with
  | zero => intro _; simp [M.maxT, hB]
  | succ k ih =>
    intro h
    have h1 := ih (fun i hi => h i (by omega))
    have h2 := h k (by omega)
    unfold M.maxT
    omega
def M.far (l lo hi : List Int) : Int := if M.armB l lo hi = true then M.sumT l l.length else 0
def M.near (l lo hi : List Int) : Int := if M.armB l lo hi = true then max (2 * M.maxT l l.length - M.sumT l l.length) 0 else 0
theorem M.reach_no {l lo hi : List Int} (h : M.armB l lo hi = false) : M.far l lo hi = 0 ∧ M.near l lo hi = 0 := by unfold M.far M.near; rw [h]; exact ⟨rfl, rfl⟩
theorem M.reach_yes {l lo hi : List Int} (h : M.armB l lo hi = true) : M.far l lo hi = M.sumT l l.length ∧ M.near l lo hi = max (2 * M.maxT l l.length - M.sumT l l.length) 0 := by unfold M.far M.near; rw [if_pos h, if_pos h]; exact ⟨rfl, rfl⟩
theorem ret_two {a b a' b' : Int} (h : a = a' ∧ b = b') : Ending.returned (.tuple #[.int .i64 a, .int .i64 b]) = .returned (.tuple #[.int .i64 a', .int .i64 b']) := by rw [h.1, h.2]
set_option maxHeartbeats 2000000 in
theorem max_ints (a : Option Addr) (n c : Nat) (l : List Int) (w : World) (h1 : l.length = n) (hn : 1 ≤ n) (hm : n ≤ 1000000000) (hpos : ∀ i, i < n → 1 ≤ l.getD i 0) (hr : Row w w.heap.size a l) :
    Calls Tryd.prog 47 #[.slice a n c] w fun e w' => e = .returned (.int .i64 (M.maxT l n)) ∧ w = w' := by
  replace h1 := Lib.hid h1
  replace hr := Lib.hid hr
  obtain ⟨b, o, rfl⟩ := hr.out.form (by rw [h1.out]; omega)
  have y0 := hr.out.cell (Below.refl _ _) (k := 0) (by rw [h1.out]; omega)
  have hx1 := hpos 0 (by omega)
  have hx := Lib.hid (show M.maxT l 1 = l.getD 0 0 by show max 0 (l.getD 0 0) = _; omega)
  generalize l.getD 0 0 = x at *
  replace hpos := Lib.hid hpos
  rw [Nat.add_zero] at y0
  have hn2 : (0 : Int) < (n : Int) := by omega
  go_enter Tryd.func47, Tryd.ntmps47
  go_wp2_with fail
  clear y0 hx1
  go_loop [3, 4] (fun q i => ∃ k : Nat, i = .int .i64 k ∧ 1 ≤ k ∧ k ≤ n ∧ q = .int .i64 (M.maxT l k)) (fun _ i => n - (intOf i).toNat)
  case atStart => exact ⟨1, rfl, Nat.le_refl _, hn, by rw [hx.out]⟩
  case round =>
    obtain ⟨k, rfl, hk1, hk, rfl⟩ := hrel
    by_cases hlt : k < n
    · have y1 := hr.out.cell (Below.refl _ _) (k := k) (by rw [h1.out]; omega)
      have hs := Lib.hid (show M.maxT l (k + 1) = max (M.maxT l k) (l.getD k 0) from rfl)
      generalize l.getD k 0 = y at *
      generalize hq : M.maxT l k = q at *
      clear hq
      have hk4 : (k : Int) < (n : Int) := by omega
      by_cases hc : q < y
      · go_wp2_with fail
        go_round
        case rel => exact ⟨k + 1, by go_num, by omega, by omega, by rw [hs.out]; go_num⟩
        case measure => simp [intOf]; omega
      · go_wp2_with fail
        go_round
        case rel => exact ⟨k + 1, by go_num, by omega, by omega, by rw [hs.out]; go_num⟩
        case measure => simp [intOf]; omega
    · obtain rfl : k = n := by omega
      go_wp2_with fail
      go_ret
      exact ⟨rfl, rfl⟩
set_option maxHeartbeats 4000000 in
theorem impl_reach (a1 a2 a3 : Option Addr) (n1 c1 n2 c2 n3 c3 : Nat) (l lo hi : List Int) (w : World) (h1 : l.length = n1) (h2 : lo.length = n2) (h3 : hi.length = n3) (hm : n1 ≤ 1000000000 ∧ n2 ≤ 1000000000 ∧ n3 ≤ 1000000000) (hr : ArmAt w w.heap.size a1 a2 a3 l lo hi) :
    Calls Tryd.prog 14 #[.agg #[.slice a1 n1 c1, .slice a2 n2 c2, .slice a3 n3 c3]] w fun e w' => e = .returned (.tuple #[.int .i64 (M.far l lo hi), .int .i64 (M.near l lo hi)]) ∧ Below w.heap.size w w' := by
  obtain ⟨m1, m2, m3⟩ := hm
  replace h1 := Lib.hid h1
  replace h2 := Lib.hid h2
  replace h3 := Lib.hid h3
  replace hr := Lib.hid hr
  have bb := Lib.hid (Below.refl w.heap.size w)
  have k0 := Cell3.new w (.slice a1 n1 c1) (.slice a2 n2 c2) (.slice a3 n3 c3) 25
  replace bb := Lib.hid (bel_after bb.out (bel_new w (.cells #[.slice a1 n1 c1, .slice a2 n2 c2, .slice a3 n3 c3] 25)))
  replace hr := Lib.hid (hr.out.after (bel_new w (.cells #[.slice a1 n1 c1, .slice a2 n2 c2, .slice a3 n3 c3] 25)))
  go_enter Tryd.func14, Tryd.ntmps14
  obtain ⟨x0, x1, x2, x3, x4, x5⟩ := id k0
  go_wp2_with fail
  clear x0 x1 x2 x3 x4 x5
  refine (impl_arm a1 a2 a3 n1 c1 n2 c2 n3 c3 l lo hi _ h1.out h2.out h3.out ⟨m1, m2, m3⟩ hr.out).mono ?_
  rintro e wl ⟨rfl, q⟩
  replace k0 := k0.after q
  replace bb := Lib.hid (bel_after bb.out q)
  replace hr := Lib.hid (hr.out.after q)
  clear q
  cases hA : M.armB l lo hi
  · have hfin := Lib.hid (M.reach_no hA)
    clear hA
    obtain ⟨x0, x1, x2, x3, x4, x5⟩ := id k0
    go_wp2_with fail
    go_ret2
    exact ⟨ret_two ⟨hfin.out.1.symm, hfin.out.2.symm⟩, bb.out⟩
  · obtain ⟨⟨⟨e1, e2⟩, _, _⟩, hv⟩ := M.armB_true hA
    have hfin := Lib.hid (M.reach_yes hA)
    rw [h1.out] at e1 e2
    rw [h1.out] at hfin hv
    replace hv := Lib.hid (fun i hi => (hv i hi).1)
    clear hA
    obtain ⟨b1, o1, rfl⟩ := hr.out.1.form (by rw [h1.out]; omega)
    obtain ⟨x0, x1, x2, x3, x4, x5⟩ := id k0
    go_wp2_with fail
    go_loop [4, 6, 13] (fun q _ i => ∃ k : Nat, i = .int .i64 k ∧ k ≤ n1 ∧ q = .int .i64 (M.sumT l k)) (fun _ _ i => n1 - (intOf i).toNat)
    case atStart => exact ⟨0, rfl, Nat.zero_le _, rfl⟩
    case round =>
      obtain ⟨k, rfl, hk, rfl⟩ := hrel
      by_cases hlt : k < n1
      · have y1 := hr.out.1.cell (Below.refl _ _) (k := k) (by rw [h1.out]; omega)
        obtain ⟨u1, u2⟩ := hv.out k hlt
        obtain ⟨u3, u4⟩ := M.sumT_bd (l := l) (k := k) (fun i hi => hv.out i (by omega))
        have hs := Lib.hid (show M.sumT l (k + 1) = M.sumT l k + l.getD k 0 from rfl)
        generalize l.getD k 0 = y at *
        generalize hq : M.sumT l k = q at *
        clear hq
        have hk4 : (k : Int) < (n1 : Int) := by omega
        go_wp2_with fail
        go_round
        case rel => exact ⟨k + 1, by go_num, by omega, by rw [hs.out]⟩
        case measure => simp [intOf]; omega
      · obtain rfl : k = n1 := by omega
        obtain ⟨u3, u4⟩ := M.sumT_bd (l := l) (k := k) (fun i hi => hv.out i (by omega))
        obtain ⟨u5, u6⟩ := M.maxT_bd (l := l) (B := 500) (by omega) (k := k) (fun i hi => hv.out i (by omega))
        go_wp2_with fail
        refine (max_ints _ k c1 l _ h1.out (by omega) (by omega) (fun i hi => (hv.out i hi).1) hr.out.1).mono ?_
        rintro e w' ⟨rfl, rfl⟩
        generalize M.sumT l k = q at *
        generalize M.maxT l k = p at *
        by_cases hc : 2 * p - q < 0
        · go_wp2_with fail
          go_ret2
          exact ⟨ret_two ⟨hfin.out.1.symm, by rw [hfin.out.2]; omega⟩, bb.out⟩
        · go_wp2_with fail
          go_ret2
          exact ⟨ret_two ⟨hfin.out.1.symm, by rw [hfin.out.2]; omega⟩, bb.out⟩
end Go.Proofs.YtmainffjekjlnaaDoor
