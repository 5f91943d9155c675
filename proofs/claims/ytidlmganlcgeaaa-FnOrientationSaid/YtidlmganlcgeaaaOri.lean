/- Contracts of the orientation of three points. -/
import Derived.Test.YtidlmganlcgeaaaPoint
namespace Go.Proofs.Ytidlmganlcgeaaa
open Go.ChangeShapes Go.WideShapes Go.ChangeAt Go.RowKit
set_option linter.unusedVariables false
def M.cr (a b c d e f : Int) : Int := (c - a) * (f - b) - (d - b) * (e - a)
def M.sgn (n : Int) : Int := if 0 < n then 1 else if n < 0 then -1 else 0
def M.ori (a b c d e f : Int) : Int := if M.pvB a b = true ∧ M.pvB c d = true ∧ M.pvB e f = true then M.sgn (M.cr a b c d e f) else 0
theorem M.sgn_pos {n : Int} (h : 0 < n) : M.sgn n = 1 := by unfold M.sgn; rw [if_pos h]
theorem M.sgn_neg {n : Int} (h : n < 0) : M.sgn n = -1 := by unfold M.sgn; rw [if_neg (by omega), if_pos h]
theorem M.sgn_zero {n : Int} (h : n = 0) : M.sgn n = 0 := by unfold M.sgn; rw [if_neg (by omega), if_neg (by omega)]
theorem l2_sign (n : Int) (w : World) : Calls Try.prog 35 #[.int .i64 n] w fun e w' => e = .returned (.int .i64 (M.sgn n)) ∧ w = w' := by
  by_cases h1 : 0 < n
  · have e := Lib.hid (M.sgn_pos h1)
    go_enter Try.func35, Try.ntmps35
    go_wp2
    go_ret
    exact ⟨ret_int e.out.symm, rfl⟩
  · by_cases h2 : n < 0
    · have e := Lib.hid (M.sgn_neg h2)
      go_enter Try.func35, Try.ntmps35
      go_wp2
      go_ret
      exact ⟨ret_int e.out.symm, rfl⟩
    · have e := Lib.hid (M.sgn_zero (n := n) (by omega))
      go_enter Try.func35, Try.ntmps35
      go_wp2
      go_ret
      exact ⟨ret_int e.out.symm, rfl⟩
theorem compare (n : Int) (w : World) : Calls Try.prog 37 #[.int .i64 n, .int .i64 0] w fun e w' => e = .returned (.int .i64 (M.sgn n)) ∧ w = w' := by
  by_cases h1 : 0 < n
  · have e := Lib.hid (M.sgn_pos h1)
    go_enter Try.func37, Try.ntmps37
    go_wp2
    go_ret
    exact ⟨ret_int e.out.symm, rfl⟩
  · by_cases h2 : n < 0
    · have e := Lib.hid (M.sgn_neg h2)
      go_enter Try.func37, Try.ntmps37
      go_wp2
      go_ret
      exact ⟨ret_int e.out.symm, rfl⟩
    · have e := Lib.hid (M.sgn_zero (n := n) (by omega))
      go_enter Try.func37, Try.ntmps37
      go_wp2
      go_ret
      exact ⟨ret_int e.out.symm, rfl⟩
theorem M.cr_bd {a b c d e f : Int} (h : M.pvB a b = true) (h2 : M.pvB c d = true) (h3 : M.pvB e f = true) :
    ((-20000 ≤ c - a ∧ c - a ≤ 20000) ∧ (-20000 ≤ f - b ∧ f - b ≤ 20000)) ∧ ((-20000 ≤ d - b ∧ d - b ≤ 20000) ∧ (-20000 ≤ e - a ∧ e - a ≤ 20000)) ∧ (-400000000 ≤ (c - a) * (f - b) ∧ (c - a) * (f - b) ≤ 400000000) ∧ (-400000000 ≤ (d - b) * (e - a) ∧ (d - b) * (e - a) ≤ 400000000) := by
  rw [M.pvB_true] at h h2 h3
  exact ⟨⟨⟨by omega, by omega⟩, ⟨by omega, by omega⟩⟩, ⟨⟨by omega, by omega⟩, ⟨by omega, by omega⟩⟩, M.mul_bd (B := 20000) (C := 20000) (by omega) (by omega) (by omega) (by omega) (by omega), M.mul_bd (B := 20000) (C := 20000) (by omega) (by omega) (by omega) (by omega) (by omega)⟩
theorem l2_cross (a b c d e f : Int) (w : World) (h : M.pvB a b = true) (h2 : M.pvB c d = true) (h3 : M.pvB e f = true) :
    Calls Try.prog 36 #[.agg #[.int .i64 a, .int .i64 b], .agg #[.int .i64 c, .int .i64 d], .agg #[.int .i64 e, .int .i64 f]] w fun x w' => x = .returned (.int .i64 (M.cr a b c d e f)) ∧ Below w.heap.size w w' := by
  obtain ⟨⟨⟨g1, g2⟩, ⟨g3, g4⟩⟩, ⟨⟨g5, g6⟩, ⟨g7, g8⟩⟩, ⟨g9, g10⟩, ⟨g11, g12⟩⟩ := M.cr_bd h h2 h3
  clear h h2 h3
  go_enter Try.func36, Try.ntmps36
  go_wp2
  go_ret
  exact ⟨rfl, bel_alloc (bel_alloc (bel_alloc (Below.refl _ _) _) _) _⟩
theorem impl_cross (a b c d e f : Int) (w : World) (h : M.pvB a b = true) (h2 : M.pvB c d = true) (h3 : M.pvB e f = true) :
    Calls Try.prog 38 #[.agg #[.int .i64 a, .int .i64 b], .agg #[.int .i64 c, .int .i64 d], .agg #[.int .i64 e, .int .i64 f]] w fun x w' => x = .returned (.int .i64 (M.cr a b c d e f)) ∧ Below w.heap.size w w' := by
  obtain ⟨⟨⟨g1, g2⟩, ⟨g3, g4⟩⟩, ⟨⟨g5, g6⟩, ⟨g7, g8⟩⟩, ⟨g9, g10⟩, ⟨g11, g12⟩⟩ := M.cr_bd h h2 h3
  clear h h2 h3
  go_enter Try.func38, Try.ntmps38
  go_wp2
  go_ret
  exact ⟨rfl, bel_alloc (bel_alloc (bel_alloc (Below.refl _ _) _) _) _⟩
theorem M.ori_yes {a b c d e f : Int} (h : M.pvB a b = true) (h2 : M.pvB c d = true) (h3 : M.pvB e f = true) : M.ori a b c d e f = M.sgn (M.cr a b c d e f) := by unfold M.ori; rw [if_pos ⟨h, h2, h3⟩]
theorem M.ori_no {a b c d e f : Int} (h : ¬ (M.pvB a b = true ∧ M.pvB c d = true ∧ M.pvB e f = true)) : M.ori a b c d e f = 0 := by unfold M.ori; rw [if_neg h]
set_option maxHeartbeats 1000000 in
theorem spec_ori (a b c d e f : Int) (w : World) :
    Calls Try.prog 20 #[.agg #[.int .i64 a, .int .i64 b], .agg #[.int .i64 c, .int .i64 d], .agg #[.int .i64 e, .int .i64 f]] w fun x w' => x = .returned (.int .i64 (M.ori a b c d e f)) ∧ Below w.heap.size w w' := by
  have B0 := (((Box.new w a b 25).alloc (.cells #[.int .i64 c, .int .i64 d] 25)).alloc (.cells #[.int .i64 e, .int .i64 f] 25))
  have B1 := ((Box.new (w.alloc (.cells #[.int .i64 a, .int .i64 b] 25)) c d 25).alloc (.cells #[.int .i64 e, .int .i64 f] 25))
  rw [World.size_alloc] at B1
  have B2 := (Box.new ((w.alloc (.cells #[.int .i64 a, .int .i64 b] 25)).alloc (.cells #[.int .i64 c, .int .i64 d] 25)) e f 25)
  rw [World.size_alloc, World.size_alloc] at B2
  have s := And.intro (And.intro B0.1 B0.2.1) (And.intro (And.intro B1.1 B1.2.1) (And.intro B2.1 B2.2.1))
  clear B0 B1 B2
  have hq := Lib.hid (bel_alloc (bel_alloc (bel_alloc (Below.refl _ w) (.cells #[.int .i64 a, .int .i64 b] 25)) (.cells #[.int .i64 c, .int .i64 d] 25)) (.cells #[.int .i64 e, .int .i64 f] 25))
  cases h1 : M.pvB a b
  · have hfin := Lib.hid (M.ori_no (a := a) (b := b) (c := c) (d := d) (e := e) (f := f) (by simp [h1]))
    go_enter Try.func20, Try.ntmps20
    go_wp2_with (first | (go_at_call 11; refine (spec_pv _ _ _).mono ?_; rintro x wn ⟨rfl, g⟩; have hb := Lib.hid g; have s := keep6 g (by assumption); clear g))
    go_ret
    exact ⟨ret_int hfin.out.symm, by repeat (first | exact hq.out | refine Below.drew ?_ | refine bel_alloc ?_ _ | refine bel_trans ?_ (by assumption))⟩
  · cases h2 : M.pvB c d
    · have hfin := Lib.hid (M.ori_no (a := a) (b := b) (c := c) (d := d) (e := e) (f := f) (by simp [h2]))
      go_enter Try.func20, Try.ntmps20
      go_wp2_with (first | (go_at_call 11; refine (spec_pv _ _ _).mono ?_; rintro x wn ⟨rfl, g⟩; have hb := Lib.hid g; have s := keep6 g (by assumption); clear g))
      go_ret
      exact ⟨ret_int hfin.out.symm, by repeat (first | exact hq.out | refine Below.drew ?_ | refine bel_alloc ?_ _ | refine bel_trans ?_ (by assumption))⟩
    · cases h3 : M.pvB e f
      · have hfin := Lib.hid (M.ori_no (a := a) (b := b) (c := c) (d := d) (e := e) (f := f) (by simp [h3]))
        go_enter Try.func20, Try.ntmps20
        go_wp2_with (first | (go_at_call 11; refine (spec_pv _ _ _).mono ?_; rintro x wn ⟨rfl, g⟩; have hb := Lib.hid g; have s := keep6 g (by assumption); clear g))
        go_ret
        exact ⟨ret_int hfin.out.symm, by repeat (first | exact hq.out | refine Below.drew ?_ | refine bel_alloc ?_ _ | refine bel_trans ?_ (by assumption))⟩
      · have hfin := Lib.hid (M.ori_yes h1 h2 h3)
        go_enter Try.func20, Try.ntmps20
        go_wp2_with (first | (go_at_call 11; refine (spec_pv _ _ _).mono ?_; rintro x wn ⟨rfl, g⟩; have hb := Lib.hid g; have s := keep6 g (by assumption); clear g) | (go_at_call 36; refine (l2_cross _ _ _ _ _ _ _ h1 h2 h3).mono ?_; rintro x wn ⟨rfl, g⟩; have hb := Lib.hid g; clear g) | (go_at_call 35; refine (l2_sign _ _).mono ?_; rintro x wn ⟨rfl, rfl⟩))
        go_ret
        exact ⟨ret_int hfin.out.symm, by repeat (first | exact hq.out | refine Below.drew ?_ | refine bel_alloc ?_ _ | refine bel_trans ?_ (by assumption))⟩
def pxs3 (a c e : Int) (i : Nat) : Int := if i = 0 then a else if i = 1 then c else e
theorem M.allB3 (a b c d e f : Int) : M.allB 3 (pxs3 a c e) (pxs3 b d f) = (M.pvB a b && (M.pvB c d && M.pvB e f)) := by simp [M.allB, List.range, List.range.loop, pxs3]
theorem at3 {w : World} (a b c d e f : Int) (t : TypeId) : AtPoints (w.alloc (.cells #[.int .i64 a, .int .i64 b, .int .i64 c, .int .i64 d, .int .i64 e, .int .i64 f] t)) w.heap.size 3 (pxs3 a c e) (pxs3 b d f) := by
  have hh : (w.alloc (.cells #[.int .i64 a, .int .i64 b, .int .i64 c, .int .i64 d, .int .i64 e, .int .i64 f] t)).heap[w.heap.size]? = some (.cells #[.int .i64 a, .int .i64 b, .int .i64 c, .int .i64 d, .int .i64 e, .int .i64 f] t) := by
    show (w.heap.push _)[w.heap.size]? = _
    rw [Array.getElem?_push, if_pos rfl]
  intro i hi
  have : i = 0 ∨ i = 1 ∨ i = 2 := by omega
  rcases this with rfl | rfl | rfl
  · exact ⟨by unfold World.cell?; rw [hh]; rfl, by unfold World.cell?; rw [hh]; rfl⟩
  · exact ⟨by unfold World.cell?; rw [hh]; rfl, by unfold World.cell?; rw [hh]; rfl⟩
  · exact ⟨by unfold World.cell?; rw [hh]; rfl, by unfold World.cell?; rw [hh]; rfl⟩
set_option maxHeartbeats 1000000 in
theorem impl_ori (a b c d e f : Int) (w : World) :
    Calls Try.prog 21 #[.agg #[.int .i64 a, .int .i64 b], .agg #[.int .i64 c, .int .i64 d], .agg #[.int .i64 e, .int .i64 f]] w fun x w' => x = .returned (.int .i64 (M.ori a b c d e f)) ∧ Below w.heap.size w w' := by
  have B0 := (((Box.new w a b 25).alloc (.cells #[.int .i64 c, .int .i64 d] 25)).alloc (.cells #[.int .i64 e, .int .i64 f] 25)).alloc (.cells #[.int .i64 a, .int .i64 b, .int .i64 c, .int .i64 d, .int .i64 e, .int .i64 f] 25)
  have B1 := ((Box.new (w.alloc (.cells #[.int .i64 a, .int .i64 b] 25)) c d 25).alloc (.cells #[.int .i64 e, .int .i64 f] 25)).alloc (.cells #[.int .i64 a, .int .i64 b, .int .i64 c, .int .i64 d, .int .i64 e, .int .i64 f] 25)
  rw [World.size_alloc] at B1
  have B2 := (Box.new ((w.alloc (.cells #[.int .i64 a, .int .i64 b] 25)).alloc (.cells #[.int .i64 c, .int .i64 d] 25)) e f 25).alloc (.cells #[.int .i64 a, .int .i64 b, .int .i64 c, .int .i64 d, .int .i64 e, .int .i64 f] 25)
  rw [World.size_alloc, World.size_alloc] at B2
  have s := And.intro (And.intro B0.1 B0.2.1) (And.intro (And.intro B1.1 B1.2.1) (And.intro B2.1 B2.2.1))
  clear B0 B1 B2
  have hq := Lib.hid (bel_alloc (bel_alloc (bel_alloc (bel_alloc (Below.refl _ w) (.cells #[.int .i64 a, .int .i64 b] 25)) (.cells #[.int .i64 c, .int .i64 d] 25)) (.cells #[.int .i64 e, .int .i64 f] 25)) (.cells #[.int .i64 a, .int .i64 b, .int .i64 c, .int .i64 d, .int .i64 e, .int .i64 f] 25))
  go_enter Try.func21, Try.ntmps21
  go_wp2_with fail
  refine (all_points _ 3 _ (pxs3 a c e) (pxs3 b d f) _ (by omega) (by simp) (by have := at3 (w := ((w.alloc (.cells #[.int .i64 a, .int .i64 b] 25)).alloc (.cells #[.int .i64 c, .int .i64 d] 25)).alloc (.cells #[.int .i64 e, .int .i64 f] 25)) a b c d e f 25; simpa using this)).mono ?_
  rintro x wn ⟨rfl, g⟩
  have hb := Lib.hid g
  have s := keep6 g (by assumption)
  clear g
  rw [M.allB3]
  cases h1 : M.pvB a b
  · have hfin := Lib.hid (M.ori_no (a := a) (b := b) (c := c) (d := d) (e := e) (f := f) (by simp [h1]))
    go_wp2_with fail
    go_ret
    exact ⟨ret_int hfin.out.symm, by repeat (first | exact hq.out | refine Below.drew ?_ | refine bel_alloc ?_ _ | refine bel_trans ?_ (by assumption))⟩
  · cases h2 : M.pvB c d
    · have hfin := Lib.hid (M.ori_no (a := a) (b := b) (c := c) (d := d) (e := e) (f := f) (by simp [h2]))
      go_wp2_with fail
      go_ret
      exact ⟨ret_int hfin.out.symm, by repeat (first | exact hq.out | refine Below.drew ?_ | refine bel_alloc ?_ _ | refine bel_trans ?_ (by assumption))⟩
    · cases h3 : M.pvB e f
      · have hfin := Lib.hid (M.ori_no (a := a) (b := b) (c := c) (d := d) (e := e) (f := f) (by simp [h3]))
        go_wp2_with fail
        go_ret
        exact ⟨ret_int hfin.out.symm, by repeat (first | exact hq.out | refine Below.drew ?_ | refine bel_alloc ?_ _ | refine bel_trans ?_ (by assumption))⟩
      · have hfin := Lib.hid (M.ori_yes h1 h2 h3)
        go_wp2_with (first | (go_at_call 38; refine (impl_cross _ _ _ _ _ _ _ h1 h2 h3).mono ?_; rintro x wn ⟨rfl, g⟩; have hb := Lib.hid g; clear g) | (go_at_call 37; refine (compare _ _).mono ?_; rintro x wn ⟨rfl, rfl⟩))
        go_ret
        exact ⟨ret_int hfin.out.symm, by repeat (first | exact hq.out | refine Below.drew ?_ | refine bel_alloc ?_ _ | refine bel_trans ?_ (by assumption))⟩
end Go.Proofs.Ytidlmganlcgeaaa
