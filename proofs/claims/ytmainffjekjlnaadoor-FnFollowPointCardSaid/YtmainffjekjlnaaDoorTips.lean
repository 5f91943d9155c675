/- Contracts of the tip of an arm and of its points, for any angles, in both packages. -/
import Derived.Test.YtmainffjekjlnaaDoorTip
namespace Go.Proofs.YtmainffjekjlnaaDoor
open Go.ChangeShapes Go.WideShapes Go.ChangeAt Go.RowKit
set_option linter.unusedVariables false
theorem Box.after {w w' : World} {k : Nat} {x y : Int} (h : Box w k x y) (hb : Below w.heap.size w w') : Box w' k x y := h.below hb h.2.2
theorem OwnsP.lastAt {w : World} {B : Nat} {v : Value} {l j : List Int} {m : Nat} (h : OwnsP w B v (M.pts l j m)) : ∃ g cap, v = .slice (some ⟨g, 0, none⟩) (m + 1) cap ∧ w.cell? ⟨g, m * 2, none⟩ = some (.int .i64 (M.pxT l j m)) ∧ w.cell? ⟨g, m * 2 + 1, none⟩ = some (.int .i64 (M.pyT l j m)) := by
  obtain ⟨a, cap, e, hrow⟩ := h.view
  obtain ⟨b, e2, _, hc⟩ := hrow.at (by intro e3; have := M.pts_len l j m; rw [e3] at this; simp at this)
  obtain ⟨y1, y2⟩ := hc m (by rw [M.pts_len]; omega)
  rw [M.pts_at l j (Nat.le_refl m)] at y1 y2
  rw [M.pts_len, e2] at e
  exact ⟨b, cap, e, y1, y2⟩
def M.tipX (l lo hi j : List Int) : Int := if M.jointsB l lo hi j = true then M.pxT l j j.length else 0
def M.tipY (l lo hi j : List Int) : Int := if M.jointsB l lo hi j = true then M.pyT l j j.length else 0
theorem M.tip_no {l lo hi j : List Int} (h : M.jointsB l lo hi j = false) : M.tipX l lo hi j = 0 ∧ M.tipY l lo hi j = 0 := by unfold M.tipX M.tipY; rw [h]; exact ⟨rfl, rfl⟩
theorem M.tip_yes {l lo hi j : List Int} (h : M.jointsB l lo hi j = true) : M.tipX l lo hi j = M.pxT l j j.length ∧ M.tipY l lo hi j = M.pyT l j j.length := by unfold M.tipX M.tipY; rw [if_pos h, if_pos h]; exact ⟨rfl, rfl⟩
def M.apts (l lo hi j : List Int) : List (Int × Int) := if M.jointsB l lo hi j = true then M.pts l j j.length else []
theorem M.apts_no {l lo hi j : List Int} (h : M.jointsB l lo hi j = false) : [] = M.apts l lo hi j := by unfold M.apts; rw [if_neg (by rw [h]; exact Bool.false_ne_true)]
theorem M.apts_yes {l lo hi j : List Int} (h : M.jointsB l lo hi j = true) : M.pts l j j.length = M.apts l lo hi j := by unfold M.apts; rw [if_pos h]
/-- valid angles of a valid arm: what a walk wants of them -/
theorem M.joints_bds {l lo hi j : List Int} (h : M.jointsB l lo hi j = true) : (1 ≤ j.length ∧ j.length ≤ 4) ∧ j.length = l.length ∧ (∀ i, i < j.length → 1 ≤ l.getD i 0 ∧ l.getD i 0 ≤ 500) ∧ (∀ i, i < j.length → -180 ≤ j.getD i 0 ∧ j.getD i 0 ≤ 180) := by
  obtain ⟨ha, e, hj⟩ := M.joints_true h
  obtain ⟨⟨⟨e1, e2⟩, e3, e4⟩, hv⟩ := M.armB_true ha
  exact ⟨by omega, e, fun i hi => (hv i (by omega)).1, fun i hi => by have := hv i (by omega); have := hj i hi; omega⟩
/-- the tip of valid angles lies among the valid points -/
theorem M.tip_pv {l lo hi j : List Int} (h : M.jointsB l lo hi j = true) : M.pvB (M.pxT l j j.length) (M.pyT l j j.length) = true := by
  obtain ⟨⟨_, e2⟩, _, hl, _⟩ := M.joints_bds h
  obtain ⟨⟨a, b⟩, ⟨c, d⟩⟩ := M.pT_bd (l := l) (j := j) (k := j.length) (fun i hi => by have := hl i hi; omega)
  exact M.pvB_true.2 (by omega)
set_option maxHeartbeats 2000000 in
theorem impl_tip (a1 a2 a3 aj : Option Addr) (n1 c1 n2 c2 n3 c3 m cm : Nat) (l j : List Int) (w : World) (hT : Tables w) (h1 : l.length = n1) (h4 : j.length = m) (hm : m ≤ n1 ∧ n1 ≤ m) (hm4 : m ≤ 4) (hr : Row w w.heap.size a1 l) (hj : Row w w.heap.size aj j) (hl : ∀ i, i < m → 0 ≤ l.getD i 0 ∧ l.getD i 0 ≤ 600) (hjb : ∀ i, i < m → -1000 ≤ j.getD i 0 ∧ j.getD i 0 ≤ 1000) :
    Calls Tryd.prog 39 #[.agg #[.slice a1 n1 c1, .slice a2 n2 c2, .slice a3 n3 c3], .slice aj m cm] w fun e w' => e = .returned (.agg #[.int .i64 (M.pxT l j m), .int .i64 (M.pyT l j m)]) ∧ Below w.heap.size w w' := by
  replace h1 := Lib.hid h1
  replace h4 := Lib.hid h4
  replace hm := Lib.hid hm
  replace hl := Lib.hid hl
  replace hjb := Lib.hid hjb
  have bb := bel_new w (.cells #[.slice a1 n1 c1, .slice a2 n2 c2, .slice a3 n3 c3] 25)
  have k0 := Cell3.new w (.slice a1 n1 c1) (.slice a2 n2 c2) (.slice a3 n3 c3) 25
  have hs := Slot.new (w.alloc (.cells #[.slice a1 n1 c1, .slice a2 n2 c2, .slice a3 n3 c3] 25)) 0 0 27
  rw [World.size_alloc] at hs
  replace k0 := k0.alloc (.cells #[.int .i64 0, .int .i64 0] 27)
  replace bb := bel_after bb (bel_new (w.alloc (.cells #[.slice a1 n1 c1, .slice a2 n2 c2, .slice a3 n3 c3] 25)) (.cells #[.int .i64 0, .int .i64 0] 27))
  replace hr := Lib.hid (hr.after bb)
  replace hj := Lib.hid (hj.after bb)
  replace hT := Lib.hid (hT.later bb)
  replace bb := Lib.hid bb
  go_enter Tryd.func39, Tryd.ntmps39
  obtain ⟨x0, x1, x2, x3, x4, x5⟩ := id k0
  go_wp2_with fail
  clear x0 x1 x2 x3 x4 x5
  generalize (w.alloc (.cells #[.slice a1 n1 c1, .slice a2 n2 c2, .slice a3 n3 c3] 25)).alloc (.cells #[.int .i64 0, .int .i64 0] 27) = v at *
  refine (impl_points a1 a2 a3 aj n1 c1 n2 c2 n3 c3 m cm l j _ hT.out h1.out h4.out (by have := hm.out; omega) hm4 hr.out hj.out hl.out hjb.out).mono ?_
  rintro e w1 ⟨v, rfl, ho, q⟩
  obtain ⟨g, cap, rfl, y1, y2⟩ := ho.lastAt
  replace bb := Lib.hid (bel_after bb.out q)
  replace hs := hs.after q
  clear ho q k0
  generalize hX : M.pxT l j m = px at *
  generalize hY : M.pyT l j m = py at *
  replace hX := Lib.hid hX
  replace hY := Lib.hid hY
  obtain ⟨p1, p2, p3, p4, p5⟩ := id hs
  go_wp2_with fail
  refine bodyPost_ret (v := .agg #[.int .i64 px, .int .i64 py]) (by simp [results, Tryd.results39, go_sem, p1, p2]) rfl ⟨ret_agg ⟨hX.out, hY.out⟩, ?_⟩
  exact bel_set (bel_set bb.out (by omega) _) (by omega) _
set_option maxHeartbeats 2000000 in
theorem spec_tip (a1 a2 a3 aj : Option Addr) (n1 c1 n2 c2 n3 c3 m cm : Nat) (l j : List Int) (w : World) (h1 : l.length = n1) (h4 : j.length = m) (hm : m ≤ n1 ∧ n1 ≤ 1000000) (hm4 : m ≤ 4) (hr : Row w w.heap.size a1 l) (hj : Row w w.heap.size aj j) (hl : ∀ i, i < m → 0 ≤ l.getD i 0 ∧ l.getD i 0 ≤ 600) (hjb : ∀ i, i < m → -1000 ≤ j.getD i 0 ∧ j.getD i 0 ≤ 1000) :
    Calls Tryd.prog 61 #[.agg #[.slice a1 n1 c1, .slice a2 n2 c2, .slice a3 n3 c3], .slice aj m cm] w fun e w' => e = .returned (.agg #[.int .i64 (M.pxT l j m), .int .i64 (M.pyT l j m)]) ∧ Below w.heap.size w w' := by
  replace h1 := Lib.hid h1
  replace h4 := Lib.hid h4
  replace hm := Lib.hid hm
  replace hl := Lib.hid hl
  replace hjb := Lib.hid hjb
  have bb := bel_new w (.cells #[.slice a1 n1 c1, .slice a2 n2 c2, .slice a3 n3 c3] 25)
  have k0 := Cell3.new w (.slice a1 n1 c1) (.slice a2 n2 c2) (.slice a3 n3 c3) 25
  have hs := Slot.new (w.alloc (.cells #[.slice a1 n1 c1, .slice a2 n2 c2, .slice a3 n3 c3] 25)) 0 0 27
  rw [World.size_alloc] at hs
  replace k0 := k0.alloc (.cells #[.int .i64 0, .int .i64 0] 27)
  replace bb := bel_after bb (bel_new (w.alloc (.cells #[.slice a1 n1 c1, .slice a2 n2 c2, .slice a3 n3 c3] 25)) (.cells #[.int .i64 0, .int .i64 0] 27))
  replace hr := Lib.hid (hr.after bb)
  replace hj := Lib.hid (hj.after bb)
  replace bb := Lib.hid bb
  go_enter Tryd.func61, Tryd.ntmps61
  obtain ⟨x0, x1, x2, x3, x4, x5⟩ := id k0
  go_wp2_with fail
  clear x0 x1 x2 x3 x4 x5
  generalize (w.alloc (.cells #[.slice a1 n1 c1, .slice a2 n2 c2, .slice a3 n3 c3] 25)).alloc (.cells #[.int .i64 0, .int .i64 0] 27) = v at *
  refine (spec_points a1 a2 a3 aj n1 c1 n2 c2 n3 c3 m cm l j _ h1.out h4.out (by have := hm.out; omega) hm4 hr.out hj.out hl.out hjb.out).mono ?_
  rintro e w1 ⟨v, rfl, ho, q⟩
  obtain ⟨g, cap, rfl, y1, y2⟩ := ho.lastAt
  replace bb := Lib.hid (bel_after bb.out q)
  replace hs := hs.after q
  clear ho q k0
  generalize hX : M.pxT l j m = px at *
  generalize hY : M.pyT l j m = py at *
  replace hX := Lib.hid hX
  replace hY := Lib.hid hY
  obtain ⟨p1, p2, p3, p4, p5⟩ := id hs
  go_wp2_with fail
  refine bodyPost_ret (v := .agg #[.int .i64 px, .int .i64 py]) (by simp [results, Tryd.results61, go_sem, p1, p2]) rfl ⟨ret_agg ⟨hX.out, hY.out⟩, ?_⟩
  exact bel_set (bel_set bb.out (by omega) _) (by omega) _
set_option maxHeartbeats 2000000 in
theorem impl_tipOf (a1 a2 a3 aj : Option Addr) (n1 c1 n2 c2 n3 c3 m cm : Nat) (l lo hi j : List Int) (w : World) (hT : Tables w) (h1 : l.length = n1) (h2 : lo.length = n2) (h3 : hi.length = n3) (h4 : j.length = m) (hm : n1 ≤ 1000000000 ∧ n2 ≤ 1000000000 ∧ n3 ≤ 1000000000) (hm4 : m ≤ 1000000000) (hr : ArmAt w w.heap.size a1 a2 a3 l lo hi) (hj : Row w w.heap.size aj j) :
    Calls Tryd.prog 17 #[.agg #[.slice a1 n1 c1, .slice a2 n2 c2, .slice a3 n3 c3], .slice aj m cm] w fun e w' => e = .returned (.agg #[.int .i64 (M.tipX l lo hi j), .int .i64 (M.tipY l lo hi j)]) ∧ Below w.heap.size w w' := by
  replace h1 := Lib.hid h1
  replace h2 := Lib.hid h2
  replace h3 := Lib.hid h3
  replace h4 := Lib.hid h4
  replace hm := Lib.hid hm
  have bb := bel_new w (.cells #[.slice a1 n1 c1, .slice a2 n2 c2, .slice a3 n3 c3] 25)
  have k0 := Cell3.new w (.slice a1 n1 c1) (.slice a2 n2 c2) (.slice a3 n3 c3) 25
  have hs := Slot.new (w.alloc (.cells #[.slice a1 n1 c1, .slice a2 n2 c2, .slice a3 n3 c3] 25)) 0 0 27
  rw [World.size_alloc] at hs
  replace k0 := k0.alloc (.cells #[.int .i64 0, .int .i64 0] 27)
  replace bb := bel_after bb (bel_new (w.alloc (.cells #[.slice a1 n1 c1, .slice a2 n2 c2, .slice a3 n3 c3] 25)) (.cells #[.int .i64 0, .int .i64 0] 27))
  replace hr := Lib.hid (hr.after bb)
  replace hj := Lib.hid (hj.after bb)
  replace hT := Lib.hid (hT.later bb)
  replace bb := Lib.hid bb
  go_enter Tryd.func17, Tryd.ntmps17
  obtain ⟨x0, x1, x2, x3, x4, x5⟩ := id k0
  go_wp2_with fail
  clear x0 x1 x2 x3 x4 x5
  generalize (w.alloc (.cells #[.slice a1 n1 c1, .slice a2 n2 c2, .slice a3 n3 c3] 25)).alloc (.cells #[.int .i64 0, .int .i64 0] 27) = v at *
  refine (impl_joints a1 a2 a3 aj n1 c1 n2 c2 n3 c3 m cm l lo hi j _ h1.out h2.out h3.out h4.out hm.out hm4 hr.out hj.out).mono ?_
  rintro e w1 ⟨rfl, q⟩
  replace k0 := k0.after q
  replace bb := Lib.hid (bel_after bb.out q)
  replace hr := Lib.hid (hr.out.after q)
  replace hj := Lib.hid (hj.out.after q)
  replace hT := Lib.hid (hT.out.later q)
  replace hs := hs.after q
  clear q
  cases hA : M.jointsB l lo hi j
  · have hfin := Lib.hid (M.tip_no hA)
    replace hA := Lib.hid hA
    obtain ⟨p1, p2, p3, p4, p5⟩ := id hs
    go_wp2_with fail
    refine bodyPost_ret (v := .agg #[.int .i64 0, .int .i64 0]) (by simp [results, Tryd.results17, go_sem, p1, p2]) rfl ⟨ret_agg hfin.out, ?_⟩
    exact bel_set (bel_set bb.out (by omega) _) (by omega) _
  · have hfin := Lib.hid (M.tip_yes hA)
    obtain ⟨⟨e1, e2⟩, e3, bl, bj⟩ := M.joints_bds hA
    replace hA := Lib.hid hA
    rw [h4.out] at e1 e2 e3 bl bj hfin
    rw [h1.out] at e3
    replace bl := Lib.hid (fun i hi => (show 0 ≤ l.getD i 0 ∧ l.getD i 0 ≤ 600 by have := bl i hi; omega))
    replace bj := Lib.hid (fun i hi => (show -1000 ≤ j.getD i 0 ∧ j.getD i 0 ≤ 1000 by have := bj i hi; omega))
    have e5 : m ≤ n1 := by omega
    have e6 : n1 ≤ m := by omega
    clear e3
    obtain ⟨x0, x1, x2, x3, x4, x5⟩ := id k0
    go_wp2_with fail
    clear x0 x1 x2 x3 x4 x5
    refine (impl_tip a1 a2 a3 aj n1 c1 n2 c2 n3 c3 m cm l j _ hT.out h1.out h4.out (by omega) (by omega) hr.out.1 hj.out bl.out bj.out).mono ?_
    rintro e w2 ⟨rfl, q⟩
    replace hs := hs.after q
    replace bb := Lib.hid (bel_after bb.out q)
    clear q
    generalize M.pxT l j m = px at *
    generalize M.pyT l j m = py at *
    obtain ⟨p1, p2, p3, p4, p5⟩ := id hs
    go_wp2_with fail
    refine bodyPost_ret (v := .agg #[.int .i64 px, .int .i64 py]) (by simp [results, Tryd.results17, go_sem, p1, p2]) rfl ⟨ret_agg hfin.out, ?_⟩
    exact bel_set (bel_set bb.out (by omega) _) (by omega) _
end Go.Proofs.YtmainffjekjlnaaDoor
