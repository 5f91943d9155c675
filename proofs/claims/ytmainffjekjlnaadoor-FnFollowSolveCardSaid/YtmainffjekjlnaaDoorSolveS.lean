/- Contract of spec.SolveArm. -/
import Derived.Test.YtmainffjekjlnaaDoorSweep
import Derived.Deep.RegionHeld3
import Derived.Deep.DeepCutAuto
import Derived.Deep.CutBlock
namespace Go.Proofs.YtmainffjekjlnaaDoor
open Go.ChangeShapes Go.WideShapes Go.ChangeAt Go.RowKit
set_option linter.unusedVariables false
/-- the best pair so far, and its distance in a slot -/
def BestS (wr : World) (B : Nat) (l : List Int) (X Y : Int) (bv lv : Value) (b : List Int) : Prop :=
  ∃ d, lv = .int .i64 d ∧ Owns wr B bv b ∧ ((b = [] ∧ ∃ a c, bv = .slice a 0 c) ∨ ∃ u v g cap, b = [u, v] ∧ bv = .slice (some ⟨g, 0, none⟩) 2 cap ∧ d = M.score l [u, v] X Y ∧ (-1000 ≤ u ∧ u ≤ 1000) ∧ (-1000 ≤ v ∧ v ≤ 1000))
theorem BestS.after {w w' : World} {B : Nat} {l : List Int} {X Y : Int} {bv lv : Value} {b : List Int} (h : BestS w B l X Y bv lv b) (q : Below w.heap.size w w') : BestS w' B l X Y bv lv b := by
  obtain ⟨d, e, ho, hc⟩ := h
  exact ⟨d, e, ho.after q, hc⟩
theorem bests_new {w : World} {B g cap : Nat} {l jj : List Int} {X Y x y ps : Int} (ho : Owns w B (.slice (some ⟨g, 0, none⟩) 2 cap) jj) (hj : jj = [x, y]) (hp : ps = M.score l [x, y] X Y) (hx : -1000 ≤ x ∧ x ≤ 1000) (hy : -1000 ≤ y ∧ y ≤ 1000) : BestS w B l X Y (.slice (some ⟨g, 0, none⟩) 2 cap) (.int .i64 ps) jj :=
  ⟨ps, rfl, ho, .inr ⟨x, y, g, cap, hj, rfl, hp, hx, hy⟩⟩
set_option maxRecDepth 20000 in
set_option maxHeartbeats 16000000 in
theorem spec_solve (a1 a2 a3 : Option Addr) (n1 c1 n2 c2 n3 c3 : Nat) (l lo hi : List Int) (X Y : Int) (w : World) (h1 : l.length = n1) (h2 : lo.length = n2) (h3 : hi.length = n3) (hm : n1 ≤ 1000000000 ∧ n2 ≤ 1000000000 ∧ n3 ≤ 1000000000) (hr : ArmAt w w.heap.size a1 a2 a3 l lo hi) :
    Calls Tryd.prog 12 #[.agg #[.slice a1 n1 c1, .slice a2 n2 c2, .slice a3 n3 c3], .agg #[.int .i64 X, .int .i64 Y]] w (IntsOut w (M.solve l lo hi X Y)) := by
  replace h1 := Lib.hid h1
  replace h2 := Lib.hid h2
  replace h3 := Lib.hid h3
  replace hm := Lib.hid hm
  have bb := bel_new w (.cells #[.slice a1 n1 c1, .slice a2 n2 c2, .slice a3 n3 c3] 25)
  have k0 := (Cell3.new w (.slice a1 n1 c1) (.slice a2 n2 c2) (.slice a3 n3 c3) 25).alloc (.cells #[.int .i64 X, .int .i64 Y] 27)
  have kt := Slot.new (w.alloc (.cells #[.slice a1 n1 c1, .slice a2 n2 c2, .slice a3 n3 c3] 25)) X Y 27
  rw [World.size_alloc] at kt
  replace bb := bel_after bb (bel_new (w.alloc (.cells #[.slice a1 n1 c1, .slice a2 n2 c2, .slice a3 n3 c3] 25)) (.cells #[.int .i64 X, .int .i64 Y] 27))
  replace hr := Lib.hid (hr.after bb)
  replace bb := Lib.hid bb
  go_enter Tryd.func12, Tryd.ntmps12
  go_upto_region 1 with fail
  generalize (w.alloc (.cells #[.slice a1 n1 c1, .slice a2 n2 c2, .slice a3 n3 c3] 25)).alloc (.cells #[.int .i64 X, .int .i64 Y] 27) = v at *
  have ho := Owns.made (w := v) (B := w.heap.size) bb.out.size
  go_upto_region 2 with fail
  replace bb := Lib.hid (bel_after bb.out (bel_new v (.cells #[] 3)))
  replace k0 := k0.after (bel_new v (.cells #[] 3))
  replace kt := kt.after (bel_new v (.cells #[] 3))
  replace hr := Lib.hid (hr.out.after (bel_new v (.cells #[] 3)))
  obtain ⟨B0, hB0⟩ : ∃ L, L = v.heap.size := ⟨_, rfl⟩
  rw [← hB0] at ho ⊢
  clear hB0
  generalize v.alloc (.cells #[] 3) = va at *
  replace ho := Lib.hid ho
  obtain ⟨x0, x1, x2, x3, x4, x5⟩ := id k0
  obtain ⟨t0, t1, t2, t3, t4⟩ := id kt
  go_wp2_with fail
  clear x0 x1 x2 x3 x4 x5 t0 t1 t2 t3 t4
  refine (spec_sweep a1 a2 a3 n1 c1 n2 c2 n3 c3 l lo hi _ h1.out h2.out h3.out hm.out hr.out).mono ?_
  rintro e w1 ⟨rfl, q⟩
  have z1 := q.size
  replace bb := Lib.hid (bel_after bb.out q)
  replace k0 := k0.after q
  replace kt := kt.after q
  replace hr := Lib.hid (hr.out.after q)
  replace ho := Lib.hid (ho.out.after q)
  clear q
  cases hS : M.sweepB l lo hi
  · have hfin := Lib.hid (M.solve_no (l := l) (lo := lo) (hi := hi) (X := X) (Y := Y) (fun h => by rw [M.sweepB_true.2 ⟨h.1, h.2.1, h.2.2.2⟩] at hS; cases hS))
    replace hS := Lib.hid hS
    go_wp2_with fail
    go_ret
    exact ints_fin hfin.out ho.out bb.out
  obtain ⟨hA, hl2, hq⟩ := M.sweepB_true.1 hS
  clear hS
  have hA_ := Lib.hid hA
  have hnA : n1 ≤ 2 := by rw [← h1.out]; omega
  have hnB : 2 ≤ n1 := by rw [← h1.out]; omega
  obtain ⟨⟨⟨e1, e2⟩, e3, e4⟩, hv⟩ := M.armB_true hA
  rw [h1.out] at e3 e4 hv
  rw [h2.out] at e3
  rw [h3.out] at e4
  have f1 : n2 ≤ 2 := by omega
  have f2 : 2 ≤ n2 := by omega
  have f3 : n3 ≤ 2 := by omega
  have f4 : 2 ≤ n3 := by omega
  have f5 : (0 : Int) < (n2 : Int) := by omega
  have f6 : (1 : Int) < (n2 : Int) := by omega
  have f7 : (0 : Int) < (n3 : Int) := by omega
  have f8 : (1 : Int) < (n3 : Int) := by omega
  have g5 : 0 < n2 := by omega
  have g6 : 1 < n2 := by omega
  have g7 : 0 < n3 := by omega
  have g8 : 1 < n3 := by omega
  clear e3 e4
  obtain ⟨vl0, ⟨v1, v2⟩, ⟨v3, v4⟩⟩ := hv 0 (by omega)
  obtain ⟨vl1, ⟨v5, v6⟩, ⟨v7, v8⟩⟩ := hv 1 (by omega)
  clear hv e1 e2
  obtain ⟨a0_, hx0⟩ : ∃ a0_, lo.getD 0 0 = a0_ := ⟨_, rfl⟩
  obtain ⟨a1_, hx1⟩ : ∃ a1_, lo.getD 1 0 = a1_ := ⟨_, rfl⟩
  obtain ⟨e0_, hx2⟩ : ∃ e0_, hi.getD 0 0 = e0_ := ⟨_, rfl⟩
  obtain ⟨e1_, hx3⟩ : ∃ e1_, hi.getD 1 0 = e1_ := ⟨_, rfl⟩
  rw [hx0] at v1 v2 v3
  rw [hx1] at v5 v6 v7
  rw [hx2] at v3 v4
  rw [hx3] at v7 v8
  replace hA := hA_
  replace hl2 := Lib.hid hl2
  replace hq := Lib.hid hq
  obtain ⟨l0_, hl0⟩ : ∃ x, l.getD 0 0 = x := ⟨_, rfl⟩
  obtain ⟨l1_, hl1⟩ : ∃ x, l.getD 1 0 = x := ⟨_, rfl⟩
  rw [hl0] at vl0
  rw [hl1] at vl1
  replace hl0 := Lib.hid hl0
  replace hl1 := Lib.hid hl1
  replace hx0 := Lib.hid hx0
  replace hx1 := Lib.hid hx1
  replace hx2 := Lib.hid hx2
  replace hx3 := Lib.hid hx3
  obtain ⟨x0, x1, x2, x3, x4, x5⟩ := id k0
  obtain ⟨t0, t1, t2, t3, t4⟩ := id kt
  go_wp2_with fail
  clear x0 x1 x2 x3 x4 x5 t0 t1 t2 t3 t4
  refine (spec_pv X Y _).mono ?_
  rintro e w2 ⟨rfl, q⟩
  have z2 := q.size
  replace bb := Lib.hid (bel_after bb.out q)
  replace k0 := k0.after q
  replace kt := kt.after q
  replace hr := Lib.hid (hr.out.after q)
  replace ho := Lib.hid (ho.out.after q)
  clear q
  cases hP : M.pvB X Y
  · have hfin := Lib.hid (M.solve_no (l := l) (lo := lo) (hi := hi) (X := X) (Y := Y) (fun h => by have h9 := h.2.2.1; rw [hP] at h9; cases h9))
    replace hP := Lib.hid hP
    go_wp2_with fail
    go_ret
    exact ints_fin hfin.out ho.out bb.out
  have hfin := Lib.hid (M.solve_yes (l := l) (lo := lo) (hi := hi) (X := X) (Y := Y) ⟨hA.out, hl2.out, hP, hq.out⟩)
  replace hP := Lib.hid hP
  obtain ⟨b2, o2, rfl⟩ := hr.out.2.1.form (by rw [h2.out]; omega)
  obtain ⟨b3, o3, rfl⟩ := hr.out.2.2.form (by rw [h3.out]; omega)
  obtain ⟨bk1, ok1, rfl⟩ := hr.out.1.form (by rw [h1.out]; omega)
  have f9 : (0 : Int) < (n1 : Int) := by omega
  have f10 : (1 : Int) < (n1 : Int) := by omega
  obtain ⟨v0, rfl⟩ : ∃ u : World, u = w2 := ⟨_, rfl⟩
  have k0_ := k0
  have kt_ := kt
  have hr_ := hr
  have bb_ := bb
  obtain ⟨KK, hKK⟩ : ∃ n : Nat, n = (e0_ - a0_ + 1).toNat := ⟨_, rfl⟩
  obtain ⟨MM, hMM⟩ : ∃ n : Nat, n = (e1_ - a1_ + 1).toNat := ⟨_, rfl⟩
  have hfound := Lib.hid (show M.found l lo hi X Y = M.slvX l X Y a0_ a1_ MM KK from by unfold M.found; rw [hx0.out, hx1.out, hx2.out, hx3.out, ← hKK, ← hMM])
  have hKe : (KK : Int) = e0_ - a0_ + 1 := by omega
  have hMe : (MM : Int) = e1_ - a1_ + 1 := by omega
  clear hKK hMM
  obtain ⟨x0, x1, x2, x3, x4, x5⟩ := id k0
  obtain ⟨t0, t1, t2, t3, t4⟩ := id kt
  obtain ⟨⟨y20, y21⟩, y30, y31⟩ := (show ((v0.cell? ⟨b2, o2, none⟩ = some (.int .i64 a0_) ∧ v0.cell? ⟨b2, o2 + 1, none⟩ = some (.int .i64 a1_)) ∧ (v0.cell? ⟨b3, o3, none⟩ = some (.int .i64 e0_) ∧ v0.cell? ⟨b3, o3 + 1, none⟩ = some (.int .i64 e1_))) from (And.intro (And.intro (rowv hr.out.2.1 (Below.refl _ _) (k := 0) (by rw [h2.out]; omega) hx0.out) (rowv hr.out.2.1 (Below.refl _ _) (k := 1) (by rw [h2.out]; omega) hx1.out)) (And.intro (rowv hr.out.2.2 (Below.refl _ _) (k := 0) (by rw [h3.out]; omega) hx2.out) (rowv hr.out.2.2 (Below.refl _ _) (k := 1) (by rw [h3.out]; omega) hx3.out))))
  have y10 : v0.cell? ⟨bk1, ok1, none⟩ = some (.int .i64 l0_) := rowv hr.out.1 (Below.refl _ _) (k := 0) (by rw [h1.out]; omega) hl0.out
  have y11 : v0.cell? ⟨bk1, ok1 + 1, none⟩ = some (.int .i64 l1_) := rowv hr.out.1 (Below.refl _ _) (k := 1) (by rw [h1.out]; omega) hl1.out
  go_wp2_with fail
  clear x0 x1 x2 x3 x4 x5 t0 t1 t2 t3 t4 y20 y21 y30 y31 y10 y11
  have hB : Hid (BestS v0 w.heap.size l X Y (.slice (some ⟨B0, 0, none⟩) 0 0) (.int .i64 0) []) := ⟨0, rfl, ho.out, .inl ⟨rfl, _, _, rfl⟩⟩
  clear ho
  have bc := Lib.hid (Below.refl v0.heap.size v0)
  go_loopw [5, 6, 7] (fun bv lv xv wr => ∃ k : Nat, xv = .int .i64 (a0_ + k) ∧ k ≤ KK ∧ Hid (BestS wr w.heap.size l X Y bv lv (M.slvX l X Y a0_ a1_ MM k)) ∧ Hid (Below v0.heap.size v0 wr)) (fun _ _ xv _ => (e0_ + 1 - intOf xv).toNat)
  case atStart => exact ⟨0, by simp, Nat.zero_le _, hB, bc⟩
  case round =>
    clear hB bc
    obtain ⟨k, rfl, hk, hB, bc⟩ := hrel
    replace k0 := k0_.after bc.out
    replace kt := kt_.after bc.out
    replace hr := Lib.hid (hr_.out.after bc.out)
    replace bb := Lib.hid (bel_after bb_.out bc.out)
    have hstep := Lib.hid (show M.slvX l X Y a0_ a1_ MM (k + 1) = M.slvY l X Y a1_ (a0_ + k) (M.slvX l X Y a0_ a1_ MM k) MM from rfl)
    generalize hxe : a0_ + (k : Int) = x at hstep ⊢
    by_cases hlt : k < KK
    · have hle : x ≤ e0_ := by omega
      have hx6 : -360 ≤ x ∧ x ≤ 360 := by omega
      have ewx : IntKind.i64.wrap (x + 1) = x + 1 := IntWalk.i64_in _ (by omega)
      generalize M.slvX l X Y a0_ a1_ MM k = b0 at *
      have hle2 : decide (x ≤ e0_) = true := by simp; omega
      obtain ⟨x0, x1, x2, x3, x4, x5⟩ := id k0
      obtain ⟨t0, t1, t2, t3, t4⟩ := id kt
      obtain ⟨⟨y20, y21⟩, y30, y31⟩ := (show ((wr.cell? ⟨b2, o2, none⟩ = some (.int .i64 a0_) ∧ wr.cell? ⟨b2, o2 + 1, none⟩ = some (.int .i64 a1_)) ∧ (wr.cell? ⟨b3, o3, none⟩ = some (.int .i64 e0_) ∧ wr.cell? ⟨b3, o3 + 1, none⟩ = some (.int .i64 e1_))) from (And.intro (And.intro (rowv hr.out.2.1 (Below.refl _ _) (k := 0) (by rw [h2.out]; omega) hx0.out) (rowv hr.out.2.1 (Below.refl _ _) (k := 1) (by rw [h2.out]; omega) hx1.out)) (And.intro (rowv hr.out.2.2 (Below.refl _ _) (k := 0) (by rw [h3.out]; omega) hx2.out) (rowv hr.out.2.2 (Below.refl _ _) (k := 1) (by rw [h3.out]; omega) hx3.out))))
      have y10 : wr.cell? ⟨bk1, ok1, none⟩ = some (.int .i64 l0_) := rowv hr.out.1 (Below.refl _ _) (k := 0) (by rw [h1.out]; omega) hl0.out
      have y11 : wr.cell? ⟨bk1, ok1 + 1, none⟩ = some (.int .i64 l1_) := rowv hr.out.1 (Below.refl _ _) (k := 1) (by rw [h1.out]; omega) hl1.out
      go_wp2_with fail
      clear x0 x1 x2 x3 x4 x5 t0 t1 t2 t3 t4 y20 y21 y30 y31 y10 y11
      obtain ⟨⟨p1, p2⟩, ⟨p3, p4⟩⟩ := M.tx_bd (x := l0_) x (by omega) (by omega)
      refine (l2_turn l0_ 0 x _ (by omega) (by omega) (by omega) (by omega)).mono ?_
      rintro e wt ⟨rfl, q⟩
      replace k0 := k0.after q
      replace kt := kt.after q
      replace hr := Lib.hid (hr.out.after q)
      replace bb := Lib.hid (bel_after bb.out q)
      replace bc := Lib.hid (bel_after bc.out q)
      replace hB := Lib.hid (hB.out.after q)
      clear q
      obtain ⟨px, hpx⟩ : ∃ z, z = M.tx l0_ 0 x := ⟨_, rfl⟩
      obtain ⟨py, hpy⟩ : ∃ z, z = M.ty l0_ 0 x := ⟨_, rfl⟩
      rw [← hpx] at p1 p2 ⊢
      rw [← hpy] at p3 p4 ⊢
      replace hpx := Lib.hid hpx
      replace hpy := Lib.hid hpy
      have kp := Slot.new wt px py 27
      go_upto_region 9 with fail
      replace k0 := k0.after (bel_new wt (.cells #[.int .i64 px, .int .i64 py] 27))
      replace kt := kt.after (bel_new wt (.cells #[.int .i64 px, .int .i64 py] 27))
      replace hr := Lib.hid (hr.out.after (bel_new wt (.cells #[.int .i64 px, .int .i64 py] 27)))
      replace bb := Lib.hid (bel_after bb.out (bel_new wt (.cells #[.int .i64 px, .int .i64 py] 27)))
      replace bc := Lib.hid (bel_after bc.out (bel_new wt (.cells #[.int .i64 px, .int .i64 py] 27)))
      replace hB := Lib.hid (hB.out.after (bel_new wt (.cells #[.int .i64 px, .int .i64 py] 27)))
      generalize wt.heap.size = P0 at kp ⊢
      generalize wt.alloc (.cells #[.int .i64 px, .int .i64 py] 27) = v1 at *
      obtain ⟨x0, x1, x2, x3, x4, x5⟩ := id k0
      obtain ⟨t0, t1, t2, t3, t4⟩ := id kt
      obtain ⟨⟨y20, y21⟩, y30, y31⟩ := (show ((v1.cell? ⟨b2, o2, none⟩ = some (.int .i64 a0_) ∧ v1.cell? ⟨b2, o2 + 1, none⟩ = some (.int .i64 a1_)) ∧ (v1.cell? ⟨b3, o3, none⟩ = some (.int .i64 e0_) ∧ v1.cell? ⟨b3, o3 + 1, none⟩ = some (.int .i64 e1_))) from (And.intro (And.intro (rowv hr.out.2.1 (Below.refl _ _) (k := 0) (by rw [h2.out]; omega) hx0.out) (rowv hr.out.2.1 (Below.refl _ _) (k := 1) (by rw [h2.out]; omega) hx1.out)) (And.intro (rowv hr.out.2.2 (Below.refl _ _) (k := 0) (by rw [h3.out]; omega) hx2.out) (rowv hr.out.2.2 (Below.refl _ _) (k := 1) (by rw [h3.out]; omega) hx3.out))))
      have y10 : v1.cell? ⟨bk1, ok1, none⟩ = some (.int .i64 l0_) := rowv hr.out.1 (Below.refl _ _) (k := 0) (by rw [h1.out]; omega) hl0.out
      have y11 : v1.cell? ⟨bk1, ok1 + 1, none⟩ = some (.int .i64 l1_) := rowv hr.out.1 (Below.refl _ _) (k := 1) (by rw [h1.out]; omega) hl1.out
      go_wp2_with fail
      clear x0 x1 x2 x3 x4 x5 t0 t1 t2 t3 t4 y20 y21 y30 y31 y10 y11
      obtain ⟨v2, rfl⟩ : ∃ u : World, u = v1 := ⟨_, rfl⟩
      have k02 := k0
      have kt2 := kt
      have hr2 := hr
      have bb2 := bb
      have bc2 := bc
      have kp2 := kp
      have bd := Lib.hid (Below.refl v2.heap.size v2)
      go_loopw [5, 6, 9] (fun bv lv yv wr => ∃ i : Nat, yv = .int .i64 (a1_ + i) ∧ i ≤ MM ∧ Hid (BestS wr w.heap.size l X Y bv lv (M.slvY l X Y a1_ x b0 i)) ∧ Hid (Below v2.heap.size v2 wr)) (fun _ _ yv _ => (e1_ + 1 - intOf yv).toNat)
      case atStart => exact ⟨0, by simp, Nat.zero_le _, hB, bd⟩
      case round =>
        clear hB bd
        obtain ⟨i, rfl, hik, hB, bd⟩ := hrel
        replace k0 := k02.after bd.out
        replace kt := kt2.after bd.out
        replace hr := Lib.hid (hr2.out.after bd.out)
        replace bb := Lib.hid (bel_after bb2.out bd.out)
        replace bc := Lib.hid (bel_after bc2.out bd.out)
        replace kp := kp2.after bd.out
        have hst2 := Lib.hid (show M.slvY l X Y a1_ x b0 (i + 1) = M.slv l X Y (M.slvY l X Y a1_ x b0 i) x (a1_ + i) from rfl)
        generalize hye : a1_ + (i : Int) = y at hst2 ⊢
        generalize hb1 : M.slvY l X Y a1_ x b0 i = b1 at hB hst2
        replace hb1 := Lib.hid hb1
        by_cases hli : i < MM
        · have hle3 : y ≤ e1_ := by omega
          have hy6 : -360 ≤ y ∧ y ≤ 360 := by omega
          have ewy : IntKind.i64.wrap (y + 1) = y + 1 := IntWalk.i64_in _ (by omega)
          have hle4 : decide (y ≤ e1_) = true := by simp; omega
          have ewxy : IntKind.i64.wrap (x + y) = x + y := IntWalk.i64_in _ (by omega)
          obtain ⟨x0, x1, x2, x3, x4, x5⟩ := id k0
          obtain ⟨t0, t1, t2, t3, t4⟩ := id kt
          obtain ⟨⟨y20, y21⟩, y30, y31⟩ := (show ((wr.cell? ⟨b2, o2, none⟩ = some (.int .i64 a0_) ∧ wr.cell? ⟨b2, o2 + 1, none⟩ = some (.int .i64 a1_)) ∧ (wr.cell? ⟨b3, o3, none⟩ = some (.int .i64 e0_) ∧ wr.cell? ⟨b3, o3 + 1, none⟩ = some (.int .i64 e1_))) from (And.intro (And.intro (rowv hr.out.2.1 (Below.refl _ _) (k := 0) (by rw [h2.out]; omega) hx0.out) (rowv hr.out.2.1 (Below.refl _ _) (k := 1) (by rw [h2.out]; omega) hx1.out)) (And.intro (rowv hr.out.2.2 (Below.refl _ _) (k := 0) (by rw [h3.out]; omega) hx2.out) (rowv hr.out.2.2 (Below.refl _ _) (k := 1) (by rw [h3.out]; omega) hx3.out))))
          have y10 : wr.cell? ⟨bk1, ok1, none⟩ = some (.int .i64 l0_) := rowv hr.out.1 (Below.refl _ _) (k := 0) (by rw [h1.out]; omega) hl0.out
          have y11 : wr.cell? ⟨bk1, ok1 + 1, none⟩ = some (.int .i64 l1_) := rowv hr.out.1 (Below.refl _ _) (k := 1) (by rw [h1.out]; omega) hl1.out
          go_wp2_with fail
          clear x0 x1 x2 x3 x4 x5 t0 t1 t2 t3 t4 y20 y21 y30 y31 y10 y11
          obtain ⟨⟨p5, p6⟩, ⟨p7, p8⟩⟩ := M.tx_bd (x := l1_) (x + y) (by omega) (by omega)
          refine (l2_turn l1_ 0 (x + y) _ (by omega) (by omega) (by omega) (by omega)).mono ?_
          rintro e wt2 ⟨rfl, q⟩
          replace k0 := k0.after q
          replace kt := kt.after q
          replace hr := Lib.hid (hr.out.after q)
          replace bb := Lib.hid (bel_after bb.out q)
          replace bc := Lib.hid (bel_after bc.out q)
          replace kp := kp.after q
          replace hB := Lib.hid (hB.out.after q)
          replace bd := Lib.hid (bel_after bd.out q)
          clear q
          obtain ⟨qx, hqx⟩ : ∃ z, z = M.tx l1_ 0 (x + y) := ⟨_, rfl⟩
          obtain ⟨qy, hqy⟩ : ∃ z, z = M.ty l1_ 0 (x + y) := ⟨_, rfl⟩
          rw [← hqx] at p5 p6 ⊢
          rw [← hqy] at p7 p8 ⊢
          replace hqx := Lib.hid hqx
          replace hqy := Lib.hid hqy
          have kq := Slot.new wt2 qx qy 27
          go_upto_region 13 with fail
          replace k0 := k0.after (bel_new wt2 (.cells #[.int .i64 qx, .int .i64 qy] 27))
          replace kt := kt.after (bel_new wt2 (.cells #[.int .i64 qx, .int .i64 qy] 27))
          replace hr := Lib.hid (hr.out.after (bel_new wt2 (.cells #[.int .i64 qx, .int .i64 qy] 27)))
          replace bb := Lib.hid (bel_after bb.out (bel_new wt2 (.cells #[.int .i64 qx, .int .i64 qy] 27)))
          replace bc := Lib.hid (bel_after bc.out (bel_new wt2 (.cells #[.int .i64 qx, .int .i64 qy] 27)))
          replace kp := kp.after (bel_new wt2 (.cells #[.int .i64 qx, .int .i64 qy] 27))
          replace hB := Lib.hid (hB.out.after (bel_new wt2 (.cells #[.int .i64 qx, .int .i64 qy] 27)))
          replace bd := Lib.hid (bel_after bd.out (bel_new wt2 (.cells #[.int .i64 qx, .int .i64 qy] 27)))
          generalize wt2.heap.size = Q0 at kq ⊢
          generalize wt2.alloc (.cells #[.int .i64 qx, .int .i64 qy] 27) = v3 at *
          have ewp : IntKind.i64.wrap (px + qx) = px + qx := IntWalk.i64_in _ (by omega)
          have ewq : IntKind.i64.wrap (py + qy) = py + qy := IntWalk.i64_in _ (by omega)
          have hpv : Hid (M.pvB (px + qx) (py + qy) = true) := M.pvB_true.2 (by omega)
          have hsc : Hid ((px + qx - X) * (px + qx - X) + (py + qy - Y) * (py + qy - Y) = M.score l [x, y] X Y) := by rw [← M.score_two, hl0.out, hl1.out, ← hpx.out, ← hpy.out, ← hqx.out, ← hqy.out, M.sq_yes hpv.out hP.out]; rfl
          obtain ⟨x0, x1, x2, x3, x4, x5⟩ := id k0
          obtain ⟨t0, t1, t2, t3, t4⟩ := id kt
          obtain ⟨⟨y20, y21⟩, y30, y31⟩ := (show ((v3.cell? ⟨b2, o2, none⟩ = some (.int .i64 a0_) ∧ v3.cell? ⟨b2, o2 + 1, none⟩ = some (.int .i64 a1_)) ∧ (v3.cell? ⟨b3, o3, none⟩ = some (.int .i64 e0_) ∧ v3.cell? ⟨b3, o3 + 1, none⟩ = some (.int .i64 e1_))) from (And.intro (And.intro (rowv hr.out.2.1 (Below.refl _ _) (k := 0) (by rw [h2.out]; omega) hx0.out) (rowv hr.out.2.1 (Below.refl _ _) (k := 1) (by rw [h2.out]; omega) hx1.out)) (And.intro (rowv hr.out.2.2 (Below.refl _ _) (k := 0) (by rw [h3.out]; omega) hx2.out) (rowv hr.out.2.2 (Below.refl _ _) (k := 1) (by rw [h3.out]; omega) hx3.out))))
          have y10 : v3.cell? ⟨bk1, ok1, none⟩ = some (.int .i64 l0_) := rowv hr.out.1 (Below.refl _ _) (k := 0) (by rw [h1.out]; omega) hl0.out
          have y11 : v3.cell? ⟨bk1, ok1 + 1, none⟩ = some (.int .i64 l1_) := rowv hr.out.1 (Below.refl _ _) (k := 1) (by rw [h1.out]; omega) hl1.out
          obtain ⟨r0, r1, r2, r3, r4⟩ := id kp
          obtain ⟨z0, z1, z2, z3, z4⟩ := id kq
          go_wp2_with fail
          clear x0 x1 x2 x3 x4 x5 t0 t1 t2 t3 t4 y20 y21 y30 y31 y10 y11 r0 r1 r2 r3 r4 z0 z1 z2 z3 z4
          refine (l2_square (px + qx) (py + qy) X Y _ hpv.out hP.out).mono ?_
          rintro e v4 ⟨rfl, q⟩
          clear kq
          replace k0 := k0.after q
          replace kt := kt.after q
          replace hr := Lib.hid (hr.out.after q)
          replace bb := Lib.hid (bel_after bb.out q)
          replace bc := Lib.hid (bel_after bc.out q)
          replace kp := kp.after q
          replace hB := Lib.hid (hB.out.after q)
          replace bd := Lib.hid (bel_after bd.out q)
          clear q
          rw [hsc.out]
          obtain ⟨ps, hps⟩ : ∃ ps, ps = M.score l [x, y] X Y := ⟨_, rfl⟩
          rw [← hps]
          replace hps := Lib.hid hps
          clear ewp ewq ewxy hsc hpv
          go_upto_region 14 with fail
          obtain ⟨d, rfl, mb, hcase⟩ := hB.out
          replace mb := Lib.hid mb
          rcases hcase with ⟨hbe, a9, c9, rfl⟩ | ⟨uu, vv, g, cap, hbe, rfl, hd, huu, hvv⟩
          · have hnew := Lib.hid (show [x, y] = M.slvY l X Y a1_ x b0 (i + 1) from by rw [hst2.out, hbe, M.slv_nil])
            replace k0 := k0.after (bel_drew _)
            replace kt := kt.after (bel_drew _)
            replace hr := Lib.hid (hr.out.after (bel_drew _))
            replace bb := Lib.hid (bel_after bb.out (bel_drew _))
            replace bc := Lib.hid (bel_after bc.out (bel_drew _))
            replace kp := kp.after (bel_drew _)
            replace hB := Lib.hid (hB.out.after (bel_drew _))
            replace bd := Lib.hid (bel_after bd.out (bel_drew _))
            replace mb := Lib.hid (mb.out.after (bel_drew _))
            have s : True := True.intro
            refine wp_region_held_drew (S := (fun _ => True)) (by kernel_rfl) s (fun hHeld => ?_)
            generalize v4.drew = ua at *
            refine wpAnyH_take (i := 0) (v := ?vq1x0) nth0 (by kernel_rfl) (by kernel_rfl) (by kernel_rfl) (fun _ _ _ h => h) (Or.inl ⟨by rfl, ?hyq1x0⟩) hHeld ?_
            case hyq1x0 => (intro wH hSw; (try dsimp only at hSw); go_simp; (try with_reducible rfl))
            simp only [Act.put, List.setIfInBounds_toArray, List.set_cons_zero, List.set_cons_succ]
            refine wpAnyH_take (i := 1) (v := ?vq1x1) nth1 (by kernel_rfl) (by kernel_rfl) (by kernel_rfl) (fun _ _ _ h => h) (Or.inl ⟨by rfl, ?hyq1x1⟩) hHeld ?_
            case hyq1x1 => (intro wH hSw; (try dsimp only at hSw); go_simp; (try with_reducible rfl))
            simp only [Act.put, List.setIfInBounds_toArray, List.set_cons_zero, List.set_cons_succ]
            refine wpAnyH_take (i := 2) (v := ?vq1x2) nth2 (by kernel_rfl) (by kernel_rfl) (by kernel_rfl) (fun _ _ _ h => h) (Or.inl ⟨by rfl, ?hyq1x2⟩) hHeld ?_
            case hyq1x2 => (intro wH hSw; (try dsimp only at hSw); go_simp; (try with_reducible rfl))
            simp only [Act.put, List.setIfInBounds_toArray, List.set_cons_zero, List.set_cons_succ]
            refine wpAnyH_take (i := 3) (v := ?vq1x3) nth3 (by kernel_rfl) (by kernel_rfl) (by kernel_rfl) (fun _ _ _ h => h) (Or.inl ⟨by rfl, ?hyq1x3⟩) hHeld ?_
            case hyq1x3 => (intro wH hSw; (try dsimp only at hSw); go_simp; (try with_reducible rfl))
            simp only [Act.put, List.setIfInBounds_toArray, List.set_cons_zero, List.set_cons_succ]
            refine wpAnyH_take (i := 4) (v := undef) nth4 (by kernel_rfl) (by kernel_rfl) (by kernel_rfl) (fun _ _ _ h => h) (Or.inr ⟨by rfl, rfl⟩) hHeld ?_
            simp only [Act.put, List.setIfInBounds_toArray, List.set_cons_zero, List.set_cons_succ]
            refine wpAnyH_take (i := 5) (v := undef) nth5 (by kernel_rfl) (by kernel_rfl) (by kernel_rfl) (fun _ _ _ h => h) (Or.inr ⟨by rfl, rfl⟩) hHeld ?_
            simp only [Act.put, List.setIfInBounds_toArray, List.set_cons_zero, List.set_cons_succ]
            refine wpAnyH_take (i := 6) (v := undef) nth6 (by kernel_rfl) (by kernel_rfl) (by kernel_rfl) (fun _ _ _ h => h) (Or.inr ⟨by rfl, rfl⟩) hHeld ?_
            simp only [Act.put, List.setIfInBounds_toArray, List.set_cons_zero, List.set_cons_succ]
            refine wpAnyH_take (i := 7) (v := ?vq1x7) nth7 (by kernel_rfl) (by kernel_rfl) (by kernel_rfl) (fun _ _ _ h => h) (Or.inl ⟨by rfl, ?hyq1x7⟩) hHeld ?_
            case hyq1x7 => (intro wH hSw; (try dsimp only at hSw); go_simp; (try with_reducible rfl))
            simp only [Act.put, List.setIfInBounds_toArray, List.set_cons_zero, List.set_cons_succ]
            refine wpAnyH_take (i := 8) (v := ?vq1x8) nth8 (by kernel_rfl) (by kernel_rfl) (by kernel_rfl) (fun _ _ _ h => h) (Or.inl ⟨by rfl, ?hyq1x8⟩) hHeld ?_
            case hyq1x8 => (intro wH hSw; (try dsimp only at hSw); go_simp; (try with_reducible rfl))
            simp only [Act.put, List.setIfInBounds_toArray, List.set_cons_zero, List.set_cons_succ]
            refine wpAnyH_take (i := 9) (v := undef) nth9 (by kernel_rfl) (by kernel_rfl) (by kernel_rfl) (fun _ _ _ h => h) (Or.inr ⟨by rfl, rfl⟩) hHeld ?_
            simp only [Act.put, List.setIfInBounds_toArray, List.set_cons_zero, List.set_cons_succ]
            refine wpAnyH_take (i := 10) (v := undef) nth10 (by kernel_rfl) (by kernel_rfl) (by kernel_rfl) (fun _ _ _ h => h) (Or.inr ⟨by rfl, rfl⟩) hHeld ?_
            simp only [Act.put, List.setIfInBounds_toArray, List.set_cons_zero, List.set_cons_succ]
            refine wpAnyH_take (i := 11) (v := undef) nth11 (by kernel_rfl) (by kernel_rfl) (by kernel_rfl) (fun _ _ _ h => h) (Or.inr ⟨by rfl, rfl⟩) hHeld ?_
            simp only [Act.put, List.setIfInBounds_toArray, List.set_cons_zero, List.set_cons_succ]
            refine wpAnyH_take (i := 12) (v := undef) nth12 (by kernel_rfl) (by kernel_rfl) (by kernel_rfl) (fun _ _ _ h => h) (Or.inr ⟨by rfl, rfl⟩) hHeld ?_
            simp only [Act.put, List.setIfInBounds_toArray, List.set_cons_zero, List.set_cons_succ]
            refine wpAnyH_take (i := 13) (v := undef) nth13 (by kernel_rfl) (by kernel_rfl) (by kernel_rfl) (fun _ _ _ h => h) (Or.inr ⟨by rfl, rfl⟩) hHeld ?_
            simp only [Act.put, List.setIfInBounds_toArray, List.set_cons_zero, List.set_cons_succ]
            refine wpAnyH_take (i := 14) (v := undef) nth14 (by kernel_rfl) (by kernel_rfl) (by kernel_rfl) (fun _ _ _ h => h) (Or.inr ⟨by rfl, rfl⟩) hHeld ?_
            simp only [Act.put, List.setIfInBounds_toArray, List.set_cons_zero, List.set_cons_succ]
            refine wpAnyH_take (i := 15) (v := undef) nth15 (by kernel_rfl) (by kernel_rfl) (by kernel_rfl) (fun _ _ _ h => h) (Or.inr ⟨by rfl, rfl⟩) hHeld ?_
            simp only [Act.put, List.setIfInBounds_toArray, List.set_cons_zero, List.set_cons_succ]
            refine wpAnyH_take (i := 16) (v := undef) nth16 (by kernel_rfl) (by kernel_rfl) (by kernel_rfl) (fun _ _ _ h => h) (Or.inr ⟨by rfl, rfl⟩) hHeld ?_
            simp only [Act.put, List.setIfInBounds_toArray, List.set_cons_zero, List.set_cons_succ]
            refine wpAnyH_take (i := 17) (v := undef) nth17 (by kernel_rfl) (by kernel_rfl) (by kernel_rfl) (fun _ _ _ h => h) (Or.inr ⟨by rfl, rfl⟩) hHeld ?_
            simp only [Act.put, List.setIfInBounds_toArray, List.set_cons_zero, List.set_cons_succ]
            refine wpAnyH_take (i := 18) (v := undef) nth18 (by kernel_rfl) (by kernel_rfl) (by kernel_rfl) (fun _ _ _ h => h) (Or.inr ⟨by rfl, rfl⟩) hHeld ?_
            simp only [Act.put, List.setIfInBounds_toArray, List.set_cons_zero, List.set_cons_succ]
            refine wpAnyH_take (i := 19) (v := undef) nth19 (by kernel_rfl) (by kernel_rfl) (by kernel_rfl) (fun _ _ _ h => h) (Or.inr ⟨by rfl, rfl⟩) hHeld ?_
            simp only [Act.put, List.setIfInBounds_toArray, List.set_cons_zero, List.set_cons_succ]
            refine wpAnyH_take (i := 20) (v := undef) nth20 (by kernel_rfl) (by kernel_rfl) (by kernel_rfl) (fun _ _ _ h => h) (Or.inr ⟨by rfl, rfl⟩) hHeld ?_
            simp only [Act.put, List.setIfInBounds_toArray, List.set_cons_zero, List.set_cons_succ]
            refine wpAnyH_take (i := 21) (v := undef) nth21 (by kernel_rfl) (by kernel_rfl) (by kernel_rfl) (fun _ _ _ h => h) (Or.inr ⟨by rfl, rfl⟩) hHeld ?_
            simp only [Act.put, List.setIfInBounds_toArray, List.set_cons_zero, List.set_cons_succ]
            refine wpAnyH_take (i := 22) (v := undef) nth22 (by kernel_rfl) (by kernel_rfl) (by kernel_rfl) (fun _ _ _ h => h) (Or.inr ⟨by rfl, rfl⟩) hHeld ?_
            simp only [Act.put, List.setIfInBounds_toArray, List.set_cons_zero, List.set_cons_succ]
            refine wpAnyH_take (i := 23) (v := undef) nth23 (by kernel_rfl) (by kernel_rfl) (by kernel_rfl) (fun _ _ _ h => h) (Or.inr ⟨by rfl, rfl⟩) hHeld ?_
            simp only [Act.put, List.setIfInBounds_toArray, List.set_cons_zero, List.set_cons_succ]
            refine wpAnyH_take (i := 24) (v := undef) nth24 (by kernel_rfl) (by kernel_rfl) (by kernel_rfl) (fun _ _ _ h => h) (Or.inr ⟨by rfl, rfl⟩) hHeld ?_
            simp only [Act.put, List.setIfInBounds_toArray, List.set_cons_zero, List.set_cons_succ]
            refine wpAnyH_take (i := 25) (v := ?vq1x25) nth25 (by kernel_rfl) (by kernel_rfl) (by kernel_rfl) (fun _ _ _ h => h) (Or.inl ⟨by rfl, ?hyq1x25⟩) hHeld ?_
            case hyq1x25 => (intro wH hSw; (try dsimp only at hSw); go_simp; (try with_reducible rfl))
            simp only [Act.put, List.setIfInBounds_toArray, List.set_cons_zero, List.set_cons_succ]
            refine wpAnyH_done (by kernel_rfl) ?_ _
            clear hHeld s
            have oj := Owns.lit2 ua x y (B := w.heap.size) bb.out.size
            have hBn := bests_new (l := l) (X := X) (Y := Y) (ps := ps) oj rfl hps.out (by omega) (by omega)
            rw [hnew.out] at hBn
            have bdn := bel_after bd.out (bel_new ua (.cells #[.int .i64 x, .int .i64 y] 3))
            go_wp2_with fail
            go_roundw
            case rel => exact ⟨i + 1, by simp; omega, by omega, hBn, bdn⟩
            case measure => simp [intOf]; omega
          · have hbt : (ps < d ∨ (ps = d ∧ M.absS x y < M.absS uu vv)) ↔ M.Better l X Y x y uu vv := by unfold M.Better; rw [hps.out, hd]
            clear hd
            by_cases hlt1 : ps < d
            · have hnew := Lib.hid (show [x, y] = M.slvY l X Y a1_ x b0 (i + 1) from by rw [hst2.out, hbe, M.slv_yes (hbt.1 (Or.inl hlt1))])
              clear hbt
              have hd1 : decide (ps < d) = true := by simp; exact hlt1
              replace k0 := k0.after (bel_drew _)
              replace kt := kt.after (bel_drew _)
              replace hr := Lib.hid (hr.out.after (bel_drew _))
              replace bb := Lib.hid (bel_after bb.out (bel_drew _))
              replace bc := Lib.hid (bel_after bc.out (bel_drew _))
              replace kp := kp.after (bel_drew _)
              replace hB := Lib.hid (hB.out.after (bel_drew _))
              replace bd := Lib.hid (bel_after bd.out (bel_drew _))
              replace mb := Lib.hid (mb.out.after (bel_drew _))
              have s : True := True.intro
              refine wp_region_held_drew (S := (fun _ => True)) (by kernel_rfl) s (fun hHeld => ?_)
              generalize v4.drew = ua at *
              refine wpAnyH_take (i := 0) (v := ?vq2x0) nth0 (by kernel_rfl) (by kernel_rfl) (by kernel_rfl) (fun _ _ _ h => h) (Or.inl ⟨by rfl, ?hyq2x0⟩) hHeld ?_
              case hyq2x0 => (intro wH hSw; (try dsimp only at hSw); go_simp; (try with_reducible rfl))
              simp only [Act.put, List.setIfInBounds_toArray, List.set_cons_zero, List.set_cons_succ]
              refine wpAnyH_take (i := 1) (v := ?vq2x1) nth1 (by kernel_rfl) (by kernel_rfl) (by kernel_rfl) (fun _ _ _ h => h) (Or.inl ⟨by rfl, ?hyq2x1⟩) hHeld ?_
              case hyq2x1 => (intro wH hSw; (try dsimp only at hSw); go_simp; (try with_reducible rfl))
              simp only [Act.put, List.setIfInBounds_toArray, List.set_cons_zero, List.set_cons_succ]
              refine wpAnyH_take (i := 2) (v := ?vq2x2) nth2 (by kernel_rfl) (by kernel_rfl) (by kernel_rfl) (fun _ _ _ h => h) (Or.inl ⟨by rfl, ?hyq2x2⟩) hHeld ?_
              case hyq2x2 => (intro wH hSw; (try dsimp only at hSw); go_simp; (try with_reducible rfl))
              simp only [Act.put, List.setIfInBounds_toArray, List.set_cons_zero, List.set_cons_succ]
              refine wpAnyH_take (i := 3) (v := ?vq2x3) nth3 (by kernel_rfl) (by kernel_rfl) (by kernel_rfl) (fun _ _ _ h => h) (Or.inl ⟨by rfl, ?hyq2x3⟩) hHeld ?_
              case hyq2x3 => (intro wH hSw; (try dsimp only at hSw); go_simp; (try with_reducible rfl))
              simp only [Act.put, List.setIfInBounds_toArray, List.set_cons_zero, List.set_cons_succ]
              refine wpAnyH_take (i := 4) (v := ?vq2x4) nth4 (by kernel_rfl) (by kernel_rfl) (by kernel_rfl) (fun _ _ _ h => h) (Or.inl ⟨by rfl, ?hyq2x4⟩) hHeld ?_
              case hyq2x4 => (intro wH hSw; (try dsimp only at hSw); go_simp; (try with_reducible rfl))
              simp only [Act.put, List.setIfInBounds_toArray, List.set_cons_zero, List.set_cons_succ]
              refine wpAnyH_take (i := 5) (v := ?vq2x5) nth5 (by kernel_rfl) (by kernel_rfl) (by kernel_rfl) (fun _ _ _ h => h) (Or.inl ⟨by rfl, ?hyq2x5⟩) hHeld ?_
              case hyq2x5 => (intro wH hSw; (try dsimp only at hSw); go_simp; (try with_reducible rfl))
              simp only [Act.put, List.setIfInBounds_toArray, List.set_cons_zero, List.set_cons_succ]
              refine wpAnyH_take (i := 6) (v := ?vq2x6) nth6 (by kernel_rfl) (by kernel_rfl) (by kernel_rfl) (fun _ _ _ h => h) (Or.inl ⟨by rfl, ?hyq2x6⟩) hHeld ?_
              case hyq2x6 => (intro wH hSw; (try dsimp only at hSw); go_simp; (try with_reducible rfl))
              simp only [Act.put, List.setIfInBounds_toArray, List.set_cons_zero, List.set_cons_succ]
              refine wpAnyH_take (i := 7) (v := ?vq2x7) nth7 (by kernel_rfl) (by kernel_rfl) (by kernel_rfl) (fun _ _ _ h => h) (Or.inl ⟨by rfl, ?hyq2x7⟩) hHeld ?_
              case hyq2x7 => (intro wH hSw; (try dsimp only at hSw); go_simp; (try with_reducible rfl))
              simp only [Act.put, List.setIfInBounds_toArray, List.set_cons_zero, List.set_cons_succ]
              refine wpAnyH_take (i := 8) (v := ?vq2x8) nth8 (by kernel_rfl) (by kernel_rfl) (by kernel_rfl) (fun _ _ _ h => h) (Or.inl ⟨by rfl, ?hyq2x8⟩) hHeld ?_
              case hyq2x8 => (intro wH hSw; (try dsimp only at hSw); go_simp; (try with_reducible rfl))
              simp only [Act.put, List.setIfInBounds_toArray, List.set_cons_zero, List.set_cons_succ]
              refine wpAnyH_take (i := 9) (v := undef) nth9 (by kernel_rfl) (by kernel_rfl) (by kernel_rfl) (fun _ _ _ h => h) (Or.inr ⟨by rfl, rfl⟩) hHeld ?_
              simp only [Act.put, List.setIfInBounds_toArray, List.set_cons_zero, List.set_cons_succ]
              refine wpAnyH_take (i := 10) (v := undef) nth10 (by kernel_rfl) (by kernel_rfl) (by kernel_rfl) (fun _ _ _ h => h) (Or.inr ⟨by rfl, rfl⟩) hHeld ?_
              simp only [Act.put, List.setIfInBounds_toArray, List.set_cons_zero, List.set_cons_succ]
              refine wpAnyH_take (i := 11) (v := undef) nth11 (by kernel_rfl) (by kernel_rfl) (by kernel_rfl) (fun _ _ _ h => h) (Or.inr ⟨by rfl, rfl⟩) hHeld ?_
              simp only [Act.put, List.setIfInBounds_toArray, List.set_cons_zero, List.set_cons_succ]
              refine wpAnyH_take (i := 12) (v := undef) nth12 (by kernel_rfl) (by kernel_rfl) (by kernel_rfl) (fun _ _ _ h => h) (Or.inr ⟨by rfl, rfl⟩) hHeld ?_
              simp only [Act.put, List.setIfInBounds_toArray, List.set_cons_zero, List.set_cons_succ]
              refine wpAnyH_take (i := 13) (v := undef) nth13 (by kernel_rfl) (by kernel_rfl) (by kernel_rfl) (fun _ _ _ h => h) (Or.inr ⟨by rfl, rfl⟩) hHeld ?_
              simp only [Act.put, List.setIfInBounds_toArray, List.set_cons_zero, List.set_cons_succ]
              refine wpAnyH_take (i := 14) (v := undef) nth14 (by kernel_rfl) (by kernel_rfl) (by kernel_rfl) (fun _ _ _ h => h) (Or.inr ⟨by rfl, rfl⟩) hHeld ?_
              simp only [Act.put, List.setIfInBounds_toArray, List.set_cons_zero, List.set_cons_succ]
              refine wpAnyH_take (i := 15) (v := undef) nth15 (by kernel_rfl) (by kernel_rfl) (by kernel_rfl) (fun _ _ _ h => h) (Or.inr ⟨by rfl, rfl⟩) hHeld ?_
              simp only [Act.put, List.setIfInBounds_toArray, List.set_cons_zero, List.set_cons_succ]
              refine wpAnyH_take (i := 16) (v := undef) nth16 (by kernel_rfl) (by kernel_rfl) (by kernel_rfl) (fun _ _ _ h => h) (Or.inr ⟨by rfl, rfl⟩) hHeld ?_
              simp only [Act.put, List.setIfInBounds_toArray, List.set_cons_zero, List.set_cons_succ]
              refine wpAnyH_take (i := 17) (v := undef) nth17 (by kernel_rfl) (by kernel_rfl) (by kernel_rfl) (fun _ _ _ h => h) (Or.inr ⟨by rfl, rfl⟩) hHeld ?_
              simp only [Act.put, List.setIfInBounds_toArray, List.set_cons_zero, List.set_cons_succ]
              refine wpAnyH_take (i := 18) (v := undef) nth18 (by kernel_rfl) (by kernel_rfl) (by kernel_rfl) (fun _ _ _ h => h) (Or.inr ⟨by rfl, rfl⟩) hHeld ?_
              simp only [Act.put, List.setIfInBounds_toArray, List.set_cons_zero, List.set_cons_succ]
              refine wpAnyH_take (i := 19) (v := undef) nth19 (by kernel_rfl) (by kernel_rfl) (by kernel_rfl) (fun _ _ _ h => h) (Or.inr ⟨by rfl, rfl⟩) hHeld ?_
              simp only [Act.put, List.setIfInBounds_toArray, List.set_cons_zero, List.set_cons_succ]
              refine wpAnyH_take (i := 20) (v := undef) nth20 (by kernel_rfl) (by kernel_rfl) (by kernel_rfl) (fun _ _ _ h => h) (Or.inr ⟨by rfl, rfl⟩) hHeld ?_
              simp only [Act.put, List.setIfInBounds_toArray, List.set_cons_zero, List.set_cons_succ]
              refine wpAnyH_take (i := 21) (v := undef) nth21 (by kernel_rfl) (by kernel_rfl) (by kernel_rfl) (fun _ _ _ h => h) (Or.inr ⟨by rfl, rfl⟩) hHeld ?_
              simp only [Act.put, List.setIfInBounds_toArray, List.set_cons_zero, List.set_cons_succ]
              refine wpAnyH_take (i := 22) (v := undef) nth22 (by kernel_rfl) (by kernel_rfl) (by kernel_rfl) (fun _ _ _ h => h) (Or.inr ⟨by rfl, rfl⟩) hHeld ?_
              simp only [Act.put, List.setIfInBounds_toArray, List.set_cons_zero, List.set_cons_succ]
              refine wpAnyH_take (i := 23) (v := undef) nth23 (by kernel_rfl) (by kernel_rfl) (by kernel_rfl) (fun _ _ _ h => h) (Or.inr ⟨by rfl, rfl⟩) hHeld ?_
              simp only [Act.put, List.setIfInBounds_toArray, List.set_cons_zero, List.set_cons_succ]
              refine wpAnyH_take (i := 24) (v := undef) nth24 (by kernel_rfl) (by kernel_rfl) (by kernel_rfl) (fun _ _ _ h => h) (Or.inr ⟨by rfl, rfl⟩) hHeld ?_
              simp only [Act.put, List.setIfInBounds_toArray, List.set_cons_zero, List.set_cons_succ]
              refine wpAnyH_take (i := 25) (v := ?vq2x25) nth25 (by kernel_rfl) (by kernel_rfl) (by kernel_rfl) (fun _ _ _ h => h) (Or.inl ⟨by rfl, ?hyq2x25⟩) hHeld ?_
              case hyq2x25 => (intro wH hSw; (try dsimp only at hSw); go_simp; (try with_reducible rfl))
              simp only [Act.put, List.setIfInBounds_toArray, List.set_cons_zero, List.set_cons_succ]
              refine wpAnyH_done (by kernel_rfl) ?_ _
              clear hHeld s
              have oj := Owns.lit2 ua x y (B := w.heap.size) bb.out.size
              have hBn := bests_new (l := l) (X := X) (Y := Y) (ps := ps) oj rfl hps.out (by omega) (by omega)
              rw [hnew.out] at hBn
              have bdn := bel_after bd.out (bel_new ua (.cells #[.int .i64 x, .int .i64 y] 3))
              go_wp2_with fail
              go_roundw
              case rel => exact ⟨i + 1, by simp; omega, by omega, hBn, bdn⟩
              case measure => simp [intOf]; omega
            have hd1 : decide (ps < d) = false := by simp; omega
            by_cases heq : ps = d
            · have hd2 : (ps == d) = true := by simp; exact heq
              by_cases hlt2 : M.absS x y < M.absS uu vv
              · have hnew := Lib.hid (show [x, y] = M.slvY l X Y a1_ x b0 (i + 1) from by rw [hst2.out, hbe, M.slv_yes (hbt.1 (Or.inr ⟨heq, hlt2⟩))])
                have hd3 : decide (M.absS x y < M.absS uu vv) = true := by simp; exact hlt2
                replace hbt := True.intro
                replace heq := Lib.hid heq
                replace k0 := k0.after (bel_drew _)
                replace kt := kt.after (bel_drew _)
                replace hr := Lib.hid (hr.out.after (bel_drew _))
                replace bb := Lib.hid (bel_after bb.out (bel_drew _))
                replace bc := Lib.hid (bel_after bc.out (bel_drew _))
                replace kp := kp.after (bel_drew _)
                replace hB := Lib.hid (hB.out.after (bel_drew _))
                replace bd := Lib.hid (bel_after bd.out (bel_drew _))
                replace mb := Lib.hid (mb.out.after (bel_drew _))
                obtain ⟨m0, _, _, _⟩ := mb.out.cellAt (by rw [hbe]; rfl) 0 (by omega)
                obtain ⟨m1, _, _, _⟩ := mb.out.cellAt (by rw [hbe]; rfl) 1 (by omega)
                rw [hbe] at m0 m1
                have s := And.intro m0 m1
                clear m0 m1
                refine wp_region_held_drew (S := (fun w' => w'.cell? ⟨g, 0, none⟩ = some (.int .i64 uu) ∧ w'.cell? ⟨g, 1, none⟩ = some (.int .i64 vv))) (by kernel_rfl) s (fun hHeld => ?_)
                generalize v4.drew = ua at *
                refine wpAnyH_take (i := 0) (v := ?vq3x0) nth0 (by kernel_rfl) (by kernel_rfl) (by kernel_rfl) (fun _ _ _ h => h) (Or.inl ⟨by rfl, ?hyq3x0⟩) hHeld ?_
                case hyq3x0 => (intro wH hSw; (try dsimp only at hSw); go_simp; (try with_reducible rfl))
                simp only [Act.put, List.setIfInBounds_toArray, List.set_cons_zero, List.set_cons_succ]
                refine wpAnyH_take (i := 1) (v := ?vq3x1) nth1 (by kernel_rfl) (by kernel_rfl) (by kernel_rfl) (fun _ _ _ h => h) (Or.inl ⟨by rfl, ?hyq3x1⟩) hHeld ?_
                case hyq3x1 => (intro wH hSw; (try dsimp only at hSw); go_simp; (try with_reducible rfl))
                simp only [Act.put, List.setIfInBounds_toArray, List.set_cons_zero, List.set_cons_succ]
                refine wpAnyH_take (i := 2) (v := ?vq3x2) nth2 (by kernel_rfl) (by kernel_rfl) (by kernel_rfl) (fun _ _ _ h => h) (Or.inl ⟨by rfl, ?hyq3x2⟩) hHeld ?_
                case hyq3x2 => (intro wH hSw; (try dsimp only at hSw); go_simp; (try with_reducible rfl))
                simp only [Act.put, List.setIfInBounds_toArray, List.set_cons_zero, List.set_cons_succ]
                refine wpAnyH_take (i := 3) (v := ?vq3x3) nth3 (by kernel_rfl) (by kernel_rfl) (by kernel_rfl) (fun _ _ _ h => h) (Or.inl ⟨by rfl, ?hyq3x3⟩) hHeld ?_
                case hyq3x3 => (intro wH hSw; (try dsimp only at hSw); go_simp; (try with_reducible rfl))
                simp only [Act.put, List.setIfInBounds_toArray, List.set_cons_zero, List.set_cons_succ]
                refine wpAnyH_take (i := 4) (v := ?vq3x4) nth4 (by kernel_rfl) (by kernel_rfl) (by kernel_rfl) (fun _ _ _ h => h) (Or.inl ⟨by rfl, ?hyq3x4⟩) hHeld ?_
                case hyq3x4 => (intro wH hSw; (try dsimp only at hSw); go_simp; (try with_reducible rfl))
                simp only [Act.put, List.setIfInBounds_toArray, List.set_cons_zero, List.set_cons_succ]
                refine wpAnyH_take (i := 5) (v := ?vq3x5) nth5 (by kernel_rfl) (by kernel_rfl) (by kernel_rfl) (fun _ _ _ h => h) (Or.inl ⟨by rfl, ?hyq3x5⟩) hHeld ?_
                case hyq3x5 => (intro wH hSw; (try dsimp only at hSw); go_simp; (try with_reducible rfl))
                simp only [Act.put, List.setIfInBounds_toArray, List.set_cons_zero, List.set_cons_succ]
                refine wpAnyH_take (i := 6) (v := ?vq3x6) nth6 (by kernel_rfl) (by kernel_rfl) (by kernel_rfl) (fun _ _ _ h => h) (Or.inl ⟨by rfl, ?hyq3x6⟩) hHeld ?_
                case hyq3x6 => (intro wH hSw; (try dsimp only at hSw); go_simp; (try with_reducible rfl))
                simp only [Act.put, List.setIfInBounds_toArray, List.set_cons_zero, List.set_cons_succ]
                refine wpAnyH_take (i := 7) (v := ?vq3x7) nth7 (by kernel_rfl) (by kernel_rfl) (by kernel_rfl) (fun _ _ _ h => h) (Or.inl ⟨by rfl, ?hyq3x7⟩) hHeld ?_
                case hyq3x7 => (intro wH hSw; (try dsimp only at hSw); go_simp; (try with_reducible rfl))
                simp only [Act.put, List.setIfInBounds_toArray, List.set_cons_zero, List.set_cons_succ]
                refine wpAnyH_take (i := 8) (v := ?vq3x8) nth8 (by kernel_rfl) (by kernel_rfl) (by kernel_rfl) (fun _ _ _ h => h) (Or.inl ⟨by rfl, ?hyq3x8⟩) hHeld ?_
                case hyq3x8 => (intro wH hSw; (try dsimp only at hSw); go_simp; (try with_reducible rfl))
                simp only [Act.put, List.setIfInBounds_toArray, List.set_cons_zero, List.set_cons_succ]
                refine wpAnyH_take (i := 9) (v := ?vq3x9) nth9 (by kernel_rfl) (by kernel_rfl) (by kernel_rfl) (fun _ _ _ h => h) (Or.inl ⟨by rfl, ?hyq3x9⟩) hHeld ?_
                case hyq3x9 => (intro wH hSw; (try dsimp only at hSw); go_simp; (try with_reducible rfl))
                simp only [Act.put, List.setIfInBounds_toArray, List.set_cons_zero, List.set_cons_succ]
                refine wpAnyH_take (i := 10) (v := ?vq3x10) nth10 (by kernel_rfl) (by kernel_rfl) (by kernel_rfl) (fun _ _ _ h => h) (Or.inl ⟨by rfl, ?hyq3x10⟩) hHeld ?_
                case hyq3x10 => (intro wH hSw; (try dsimp only at hSw); go_simp; (try with_reducible rfl))
                simp only [Act.put, List.setIfInBounds_toArray, List.set_cons_zero, List.set_cons_succ]
                refine wpAnyH_take (i := 11) (v := ?vq3x11) nth11 (by kernel_rfl) (by kernel_rfl) (by kernel_rfl) (fun _ _ _ h => h) (Or.inl ⟨by rfl, ?hyq3x11⟩) hHeld ?_
                case hyq3x11 => (intro wH hSw; (try dsimp only at hSw); go_simp; (try with_reducible rfl))
                simp only [Act.put, List.setIfInBounds_toArray, List.set_cons_zero, List.set_cons_succ]
                refine wpAnyH_take (i := 12) (v := ?vq3x12) nth12 (by kernel_rfl) (by kernel_rfl) (by kernel_rfl) (fun _ _ _ h => h) (Or.inl ⟨by rfl, ?hyq3x12⟩) hHeld ?_
                case hyq3x12 => (intro wH hSw; (try dsimp only at hSw); go_simp; (try with_reducible rfl))
                simp only [Act.put, List.setIfInBounds_toArray, List.set_cons_zero, List.set_cons_succ]
                refine wpAnyH_take (i := 13) (v := ?vq3x13) nth13 (by kernel_rfl) (by kernel_rfl) (by kernel_rfl) (fun _ _ _ h => h) (Or.inl ⟨by rfl, ?hyq3x13⟩) hHeld ?_
                case hyq3x13 => (intro wH hSw; (try dsimp only at hSw); go_simp; (try with_reducible rfl))
                simp only [Act.put, List.setIfInBounds_toArray, List.set_cons_zero, List.set_cons_succ]
                refine wpAnyH_take (i := 14) (v := ?vq3x14) nth14 (by kernel_rfl) (by kernel_rfl) (by kernel_rfl) (fun _ _ _ h => h) (Or.inl ⟨by rfl, ?hyq3x14⟩) hHeld ?_
                case hyq3x14 => (intro wH hSw; (try dsimp only at hSw); go_simp; (try with_reducible rfl))
                simp only [Act.put, List.setIfInBounds_toArray, List.set_cons_zero, List.set_cons_succ]
                refine wpAnyH_take (i := 16) (v := ?vq3x16) nth16 (by kernel_rfl) (by kernel_rfl) (by kernel_rfl) (fun _ _ _ h => h) (Or.inl ⟨by rfl, ?hyq3x16⟩) hHeld ?_
                case hyq3x16 => (intro wH hSw; (try dsimp only at hSw); go_simp; (try with_reducible rfl))
                simp only [Act.put, List.setIfInBounds_toArray, List.set_cons_zero, List.set_cons_succ]
                refine wpAnyH_take (i := 17) (v := ?vq3x17) nth17 (by kernel_rfl) (by kernel_rfl) (by kernel_rfl) (fun _ _ _ h => h) (Or.inl ⟨by rfl, ?hyq3x17⟩) hHeld ?_
                case hyq3x17 => (intro wH hSw; (try dsimp only at hSw); go_simp; (try with_reducible rfl))
                simp only [Act.put, List.setIfInBounds_toArray, List.set_cons_zero, List.set_cons_succ]
                refine wpAnyH_take (i := 18) (v := ?vq3x18) nth18 (by kernel_rfl) (by kernel_rfl) (by kernel_rfl) (fun _ _ _ h => h) (Or.inl ⟨by rfl, ?hyq3x18⟩) hHeld ?_
                case hyq3x18 => (intro wH hSw; (try dsimp only at hSw); go_simp; (try with_reducible rfl))
                simp only [Act.put, List.setIfInBounds_toArray, List.set_cons_zero, List.set_cons_succ]
                refine wpAnyH_take (i := 19) (v := ?vq3x19) nth19 (by kernel_rfl) (by kernel_rfl) (by kernel_rfl) (fun _ _ _ h => h) (Or.inl ⟨by rfl, ?hyq3x19⟩) hHeld ?_
                case hyq3x19 => (intro wH hSw; (try dsimp only at hSw); go_simp; (try with_reducible rfl))
                simp only [Act.put, List.setIfInBounds_toArray, List.set_cons_zero, List.set_cons_succ]
                refine wpAnyH_take (i := 20) (v := ?vq3x20) nth20 (by kernel_rfl) (by kernel_rfl) (by kernel_rfl) (fun _ _ _ h => h) (Or.inl ⟨by rfl, ?hyq3x20⟩) hHeld ?_
                case hyq3x20 => (intro wH hSw; (try dsimp only at hSw); go_simp; (try with_reducible rfl))
                simp only [Act.put, List.setIfInBounds_toArray, List.set_cons_zero, List.set_cons_succ]
                refine wpAnyH_take (i := 21) (v := ?vq3x21) nth21 (by kernel_rfl) (by kernel_rfl) (by kernel_rfl) (fun _ _ _ h => h) (Or.inl ⟨by rfl, ?hyq3x21⟩) hHeld ?_
                case hyq3x21 => (intro wH hSw; (try dsimp only at hSw); go_simp; (try with_reducible rfl))
                simp only [Act.put, List.setIfInBounds_toArray, List.set_cons_zero, List.set_cons_succ]
                refine wpAnyH_ready (rs := [15]) (by kernel_rfl) (by simp) ?_
                refine AllReadyH.cons nth15 (fun K hK => ?_) ?_
                · go_simp
                  go_at_call 45
                  refine (spec_sum x y _ (by omega) (by omega)).mono ?_
                  rintro e wc ⟨rfl, rfl⟩
                  clear s
                  clear hHeld
                  obtain ⟨m0, _, _, _⟩ := mb.out.cellAt (by rw [hbe]; rfl) 0 (by omega)
                  obtain ⟨m1, _, _, _⟩ := mb.out.cellAt (by rw [hbe]; rfl) 1 (by omega)
                  rw [hbe] at m0 m1
                  have s := And.intro m0 m1
                  clear m0 m1
                  refine hK.out _ _ s (fun hHeld => ?_)
                  clear hK K
                  try simp only [Act.put, List.setIfInBounds_toArray, List.set_cons_zero, List.set_cons_succ]
                  refine wpAnyH_ready (rs := [22]) (by kernel_rfl) (by simp) ?_
                  refine AllReadyH.cons nth22 (fun K hK => ?_) ?_
                  · go_simp
                    go_at_call 45
                    refine (spec_sum uu vv _ huu hvv).mono ?_
                    rintro e wc ⟨rfl, rfl⟩
                    clear s
                    clear hHeld
                    obtain ⟨m0, _, _, _⟩ := mb.out.cellAt (by rw [hbe]; rfl) 0 (by omega)
                    obtain ⟨m1, _, _, _⟩ := mb.out.cellAt (by rw [hbe]; rfl) 1 (by omega)
                    rw [hbe] at m0 m1
                    have s := And.intro m0 m1
                    clear m0 m1
                    refine hK.out _ _ s (fun hHeld => ?_)
                    clear hK K
                    try simp only [Act.put, List.setIfInBounds_toArray, List.set_cons_zero, List.set_cons_succ]
                    refine wpAnyH_take (i := 23) (v := ?vq3x23) nth23 (by kernel_rfl) (by kernel_rfl) (by kernel_rfl) (fun _ _ _ h => h) (Or.inl ⟨by rfl, ?hyq3x23⟩) hHeld ?_
                    case hyq3x23 => (intro wH hSw; (try dsimp only at hSw); go_simp; (try with_reducible rfl))
                    simp only [Act.put, List.setIfInBounds_toArray, List.set_cons_zero, List.set_cons_succ]
                    refine wpAnyH_take (i := 24) (v := ?vq3x24) nth24 (by kernel_rfl) (by kernel_rfl) (by kernel_rfl) (fun _ _ _ h => h) (Or.inl ⟨by rfl, ?hyq3x24⟩) hHeld ?_
                    case hyq3x24 => (intro wH hSw; (try dsimp only at hSw); go_simp; (try with_reducible rfl))
                    simp only [Act.put, List.setIfInBounds_toArray, List.set_cons_zero, List.set_cons_succ]
                    refine wpAnyH_take (i := 25) (v := ?vq3x25) nth25 (by kernel_rfl) (by kernel_rfl) (by kernel_rfl) (fun _ _ _ h => h) (Or.inl ⟨by rfl, ?hyq3x25⟩) hHeld ?_
                    case hyq3x25 => (intro wH hSw; (try dsimp only at hSw); go_simp; (try with_reducible rfl))
                    simp only [Act.put, List.setIfInBounds_toArray, List.set_cons_zero, List.set_cons_succ]
                    refine wpAnyH_done (by kernel_rfl) ?_ _
                    clear hHeld s
                    have oj := Owns.lit2 ua x y (B := w.heap.size) bb.out.size
                    have hBn := bests_new (l := l) (X := X) (Y := Y) (ps := ps) oj rfl hps.out (by omega) (by omega)
                    rw [hnew.out] at hBn
                    have bdn := bel_after bd.out (bel_new ua (.cells #[.int .i64 x, .int .i64 y] 3))
                    go_wp2_with fail
                    go_roundw
                    case rel => exact ⟨i + 1, by simp; omega, by omega, hBn, bdn⟩
                    case measure => simp [intOf]; omega
                  exact AllReadyH.nil
                exact AllReadyH.nil
              · have hnew := Lib.hid (show b1 = M.slvY l X Y a1_ x b0 (i + 1) from by rw [hst2.out, hbe, M.slv_no (fun h => by have h9 := hbt.2 h; omega)])
                have hd3 : decide (M.absS x y < M.absS uu vv) = false := by rw [decide_eq_false_iff_not]; exact hlt2
                replace hbt := True.intro
                replace heq := Lib.hid heq
                replace k0 := k0.after (bel_drew _)
                replace kt := kt.after (bel_drew _)
                replace hr := Lib.hid (hr.out.after (bel_drew _))
                replace bb := Lib.hid (bel_after bb.out (bel_drew _))
                replace bc := Lib.hid (bel_after bc.out (bel_drew _))
                replace kp := kp.after (bel_drew _)
                replace hB := Lib.hid (hB.out.after (bel_drew _))
                replace bd := Lib.hid (bel_after bd.out (bel_drew _))
                replace mb := Lib.hid (mb.out.after (bel_drew _))
                obtain ⟨m0, _, _, _⟩ := mb.out.cellAt (by rw [hbe]; rfl) 0 (by omega)
                obtain ⟨m1, _, _, _⟩ := mb.out.cellAt (by rw [hbe]; rfl) 1 (by omega)
                rw [hbe] at m0 m1
                have s := And.intro m0 m1
                clear m0 m1
                refine wp_region_held_drew (S := (fun w' => w'.cell? ⟨g, 0, none⟩ = some (.int .i64 uu) ∧ w'.cell? ⟨g, 1, none⟩ = some (.int .i64 vv))) (by kernel_rfl) s (fun hHeld => ?_)
                generalize v4.drew = ua at *
                refine wpAnyH_take (i := 0) (v := ?vq4x0) nth0 (by kernel_rfl) (by kernel_rfl) (by kernel_rfl) (fun _ _ _ h => h) (Or.inl ⟨by rfl, ?hyq4x0⟩) hHeld ?_
                case hyq4x0 => (intro wH hSw; (try dsimp only at hSw); go_simp; (try with_reducible rfl))
                simp only [Act.put, List.setIfInBounds_toArray, List.set_cons_zero, List.set_cons_succ]
                refine wpAnyH_take (i := 1) (v := ?vq4x1) nth1 (by kernel_rfl) (by kernel_rfl) (by kernel_rfl) (fun _ _ _ h => h) (Or.inl ⟨by rfl, ?hyq4x1⟩) hHeld ?_
                case hyq4x1 => (intro wH hSw; (try dsimp only at hSw); go_simp; (try with_reducible rfl))
                simp only [Act.put, List.setIfInBounds_toArray, List.set_cons_zero, List.set_cons_succ]
                refine wpAnyH_take (i := 2) (v := ?vq4x2) nth2 (by kernel_rfl) (by kernel_rfl) (by kernel_rfl) (fun _ _ _ h => h) (Or.inl ⟨by rfl, ?hyq4x2⟩) hHeld ?_
                case hyq4x2 => (intro wH hSw; (try dsimp only at hSw); go_simp; (try with_reducible rfl))
                simp only [Act.put, List.setIfInBounds_toArray, List.set_cons_zero, List.set_cons_succ]
                refine wpAnyH_take (i := 3) (v := ?vq4x3) nth3 (by kernel_rfl) (by kernel_rfl) (by kernel_rfl) (fun _ _ _ h => h) (Or.inl ⟨by rfl, ?hyq4x3⟩) hHeld ?_
                case hyq4x3 => (intro wH hSw; (try dsimp only at hSw); go_simp; (try with_reducible rfl))
                simp only [Act.put, List.setIfInBounds_toArray, List.set_cons_zero, List.set_cons_succ]
                refine wpAnyH_take (i := 4) (v := ?vq4x4) nth4 (by kernel_rfl) (by kernel_rfl) (by kernel_rfl) (fun _ _ _ h => h) (Or.inl ⟨by rfl, ?hyq4x4⟩) hHeld ?_
                case hyq4x4 => (intro wH hSw; (try dsimp only at hSw); go_simp; (try with_reducible rfl))
                simp only [Act.put, List.setIfInBounds_toArray, List.set_cons_zero, List.set_cons_succ]
                refine wpAnyH_take (i := 5) (v := ?vq4x5) nth5 (by kernel_rfl) (by kernel_rfl) (by kernel_rfl) (fun _ _ _ h => h) (Or.inl ⟨by rfl, ?hyq4x5⟩) hHeld ?_
                case hyq4x5 => (intro wH hSw; (try dsimp only at hSw); go_simp; (try with_reducible rfl))
                simp only [Act.put, List.setIfInBounds_toArray, List.set_cons_zero, List.set_cons_succ]
                refine wpAnyH_take (i := 6) (v := ?vq4x6) nth6 (by kernel_rfl) (by kernel_rfl) (by kernel_rfl) (fun _ _ _ h => h) (Or.inl ⟨by rfl, ?hyq4x6⟩) hHeld ?_
                case hyq4x6 => (intro wH hSw; (try dsimp only at hSw); go_simp; (try with_reducible rfl))
                simp only [Act.put, List.setIfInBounds_toArray, List.set_cons_zero, List.set_cons_succ]
                refine wpAnyH_take (i := 7) (v := ?vq4x7) nth7 (by kernel_rfl) (by kernel_rfl) (by kernel_rfl) (fun _ _ _ h => h) (Or.inl ⟨by rfl, ?hyq4x7⟩) hHeld ?_
                case hyq4x7 => (intro wH hSw; (try dsimp only at hSw); go_simp; (try with_reducible rfl))
                simp only [Act.put, List.setIfInBounds_toArray, List.set_cons_zero, List.set_cons_succ]
                refine wpAnyH_take (i := 8) (v := ?vq4x8) nth8 (by kernel_rfl) (by kernel_rfl) (by kernel_rfl) (fun _ _ _ h => h) (Or.inl ⟨by rfl, ?hyq4x8⟩) hHeld ?_
                case hyq4x8 => (intro wH hSw; (try dsimp only at hSw); go_simp; (try with_reducible rfl))
                simp only [Act.put, List.setIfInBounds_toArray, List.set_cons_zero, List.set_cons_succ]
                refine wpAnyH_take (i := 9) (v := ?vq4x9) nth9 (by kernel_rfl) (by kernel_rfl) (by kernel_rfl) (fun _ _ _ h => h) (Or.inl ⟨by rfl, ?hyq4x9⟩) hHeld ?_
                case hyq4x9 => (intro wH hSw; (try dsimp only at hSw); go_simp; (try with_reducible rfl))
                simp only [Act.put, List.setIfInBounds_toArray, List.set_cons_zero, List.set_cons_succ]
                refine wpAnyH_take (i := 10) (v := ?vq4x10) nth10 (by kernel_rfl) (by kernel_rfl) (by kernel_rfl) (fun _ _ _ h => h) (Or.inl ⟨by rfl, ?hyq4x10⟩) hHeld ?_
                case hyq4x10 => (intro wH hSw; (try dsimp only at hSw); go_simp; (try with_reducible rfl))
                simp only [Act.put, List.setIfInBounds_toArray, List.set_cons_zero, List.set_cons_succ]
                refine wpAnyH_take (i := 11) (v := ?vq4x11) nth11 (by kernel_rfl) (by kernel_rfl) (by kernel_rfl) (fun _ _ _ h => h) (Or.inl ⟨by rfl, ?hyq4x11⟩) hHeld ?_
                case hyq4x11 => (intro wH hSw; (try dsimp only at hSw); go_simp; (try with_reducible rfl))
                simp only [Act.put, List.setIfInBounds_toArray, List.set_cons_zero, List.set_cons_succ]
                refine wpAnyH_take (i := 12) (v := ?vq4x12) nth12 (by kernel_rfl) (by kernel_rfl) (by kernel_rfl) (fun _ _ _ h => h) (Or.inl ⟨by rfl, ?hyq4x12⟩) hHeld ?_
                case hyq4x12 => (intro wH hSw; (try dsimp only at hSw); go_simp; (try with_reducible rfl))
                simp only [Act.put, List.setIfInBounds_toArray, List.set_cons_zero, List.set_cons_succ]
                refine wpAnyH_take (i := 13) (v := ?vq4x13) nth13 (by kernel_rfl) (by kernel_rfl) (by kernel_rfl) (fun _ _ _ h => h) (Or.inl ⟨by rfl, ?hyq4x13⟩) hHeld ?_
                case hyq4x13 => (intro wH hSw; (try dsimp only at hSw); go_simp; (try with_reducible rfl))
                simp only [Act.put, List.setIfInBounds_toArray, List.set_cons_zero, List.set_cons_succ]
                refine wpAnyH_take (i := 14) (v := ?vq4x14) nth14 (by kernel_rfl) (by kernel_rfl) (by kernel_rfl) (fun _ _ _ h => h) (Or.inl ⟨by rfl, ?hyq4x14⟩) hHeld ?_
                case hyq4x14 => (intro wH hSw; (try dsimp only at hSw); go_simp; (try with_reducible rfl))
                simp only [Act.put, List.setIfInBounds_toArray, List.set_cons_zero, List.set_cons_succ]
                refine wpAnyH_take (i := 16) (v := ?vq4x16) nth16 (by kernel_rfl) (by kernel_rfl) (by kernel_rfl) (fun _ _ _ h => h) (Or.inl ⟨by rfl, ?hyq4x16⟩) hHeld ?_
                case hyq4x16 => (intro wH hSw; (try dsimp only at hSw); go_simp; (try with_reducible rfl))
                simp only [Act.put, List.setIfInBounds_toArray, List.set_cons_zero, List.set_cons_succ]
                refine wpAnyH_take (i := 17) (v := ?vq4x17) nth17 (by kernel_rfl) (by kernel_rfl) (by kernel_rfl) (fun _ _ _ h => h) (Or.inl ⟨by rfl, ?hyq4x17⟩) hHeld ?_
                case hyq4x17 => (intro wH hSw; (try dsimp only at hSw); go_simp; (try with_reducible rfl))
                simp only [Act.put, List.setIfInBounds_toArray, List.set_cons_zero, List.set_cons_succ]
                refine wpAnyH_take (i := 18) (v := ?vq4x18) nth18 (by kernel_rfl) (by kernel_rfl) (by kernel_rfl) (fun _ _ _ h => h) (Or.inl ⟨by rfl, ?hyq4x18⟩) hHeld ?_
                case hyq4x18 => (intro wH hSw; (try dsimp only at hSw); go_simp; (try with_reducible rfl))
                simp only [Act.put, List.setIfInBounds_toArray, List.set_cons_zero, List.set_cons_succ]
                refine wpAnyH_take (i := 19) (v := ?vq4x19) nth19 (by kernel_rfl) (by kernel_rfl) (by kernel_rfl) (fun _ _ _ h => h) (Or.inl ⟨by rfl, ?hyq4x19⟩) hHeld ?_
                case hyq4x19 => (intro wH hSw; (try dsimp only at hSw); go_simp; (try with_reducible rfl))
                simp only [Act.put, List.setIfInBounds_toArray, List.set_cons_zero, List.set_cons_succ]
                refine wpAnyH_take (i := 20) (v := ?vq4x20) nth20 (by kernel_rfl) (by kernel_rfl) (by kernel_rfl) (fun _ _ _ h => h) (Or.inl ⟨by rfl, ?hyq4x20⟩) hHeld ?_
                case hyq4x20 => (intro wH hSw; (try dsimp only at hSw); go_simp; (try with_reducible rfl))
                simp only [Act.put, List.setIfInBounds_toArray, List.set_cons_zero, List.set_cons_succ]
                refine wpAnyH_take (i := 21) (v := ?vq4x21) nth21 (by kernel_rfl) (by kernel_rfl) (by kernel_rfl) (fun _ _ _ h => h) (Or.inl ⟨by rfl, ?hyq4x21⟩) hHeld ?_
                case hyq4x21 => (intro wH hSw; (try dsimp only at hSw); go_simp; (try with_reducible rfl))
                simp only [Act.put, List.setIfInBounds_toArray, List.set_cons_zero, List.set_cons_succ]
                refine wpAnyH_ready (rs := [15]) (by kernel_rfl) (by simp) ?_
                refine AllReadyH.cons nth15 (fun K hK => ?_) ?_
                · go_simp
                  go_at_call 45
                  refine (spec_sum x y _ (by omega) (by omega)).mono ?_
                  rintro e wc ⟨rfl, rfl⟩
                  clear s
                  clear hHeld
                  obtain ⟨m0, _, _, _⟩ := mb.out.cellAt (by rw [hbe]; rfl) 0 (by omega)
                  obtain ⟨m1, _, _, _⟩ := mb.out.cellAt (by rw [hbe]; rfl) 1 (by omega)
                  rw [hbe] at m0 m1
                  have s := And.intro m0 m1
                  clear m0 m1
                  refine hK.out _ _ s (fun hHeld => ?_)
                  clear hK K
                  try simp only [Act.put, List.setIfInBounds_toArray, List.set_cons_zero, List.set_cons_succ]
                  refine wpAnyH_ready (rs := [22]) (by kernel_rfl) (by simp) ?_
                  refine AllReadyH.cons nth22 (fun K hK => ?_) ?_
                  · go_simp
                    go_at_call 45
                    refine (spec_sum uu vv _ huu hvv).mono ?_
                    rintro e wc ⟨rfl, rfl⟩
                    clear s
                    clear hHeld
                    obtain ⟨m0, _, _, _⟩ := mb.out.cellAt (by rw [hbe]; rfl) 0 (by omega)
                    obtain ⟨m1, _, _, _⟩ := mb.out.cellAt (by rw [hbe]; rfl) 1 (by omega)
                    rw [hbe] at m0 m1
                    have s := And.intro m0 m1
                    clear m0 m1
                    refine hK.out _ _ s (fun hHeld => ?_)
                    clear hK K
                    try simp only [Act.put, List.setIfInBounds_toArray, List.set_cons_zero, List.set_cons_succ]
                    refine wpAnyH_take (i := 23) (v := ?vq4x23) nth23 (by kernel_rfl) (by kernel_rfl) (by kernel_rfl) (fun _ _ _ h => h) (Or.inl ⟨by rfl, ?hyq4x23⟩) hHeld ?_
                    case hyq4x23 => (intro wH hSw; (try dsimp only at hSw); go_simp; (try with_reducible rfl))
                    simp only [Act.put, List.setIfInBounds_toArray, List.set_cons_zero, List.set_cons_succ]
                    refine wpAnyH_take (i := 24) (v := ?vq4x24) nth24 (by kernel_rfl) (by kernel_rfl) (by kernel_rfl) (fun _ _ _ h => h) (Or.inl ⟨by rfl, ?hyq4x24⟩) hHeld ?_
                    case hyq4x24 => (intro wH hSw; (try dsimp only at hSw); go_simp; (try with_reducible rfl))
                    simp only [Act.put, List.setIfInBounds_toArray, List.set_cons_zero, List.set_cons_succ]
                    refine wpAnyH_take (i := 25) (v := ?vq4x25) nth25 (by kernel_rfl) (by kernel_rfl) (by kernel_rfl) (fun _ _ _ h => h) (Or.inl ⟨by rfl, ?hyq4x25⟩) hHeld ?_
                    case hyq4x25 => (intro wH hSw; (try dsimp only at hSw); go_simp; (try with_reducible rfl))
                    simp only [Act.put, List.setIfInBounds_toArray, List.set_cons_zero, List.set_cons_succ]
                    refine wpAnyH_done (by kernel_rfl) ?_ _
                    clear hHeld s
                    go_wp2_with fail
                    replace hB := hB.out
                    rw [hnew.out] at hB
                    go_roundw
                    case rel => exact ⟨i + 1, by simp; omega, by omega, hB, bd⟩
                    case measure => simp [intOf]; omega
                  exact AllReadyH.nil
                exact AllReadyH.nil
            · have hnew := Lib.hid (show b1 = M.slvY l X Y a1_ x b0 (i + 1) from by rw [hst2.out, hbe, M.slv_no (fun h => by have h9 := hbt.2 h; omega)])
              have hd2 : (ps == d) = false := by simp; exact heq
              replace hbt := True.intro
              replace k0 := k0.after (bel_drew _)
              replace kt := kt.after (bel_drew _)
              replace hr := Lib.hid (hr.out.after (bel_drew _))
              replace bb := Lib.hid (bel_after bb.out (bel_drew _))
              replace bc := Lib.hid (bel_after bc.out (bel_drew _))
              replace kp := kp.after (bel_drew _)
              replace hB := Lib.hid (hB.out.after (bel_drew _))
              replace bd := Lib.hid (bel_after bd.out (bel_drew _))
              replace mb := Lib.hid (mb.out.after (bel_drew _))
              have s : True := True.intro
              refine wp_region_held_drew (S := (fun _ => True)) (by kernel_rfl) s (fun hHeld => ?_)
              generalize v4.drew = ua at *
              refine wpAnyH_take (i := 0) (v := ?vq5x0) nth0 (by kernel_rfl) (by kernel_rfl) (by kernel_rfl) (fun _ _ _ h => h) (Or.inl ⟨by rfl, ?hyq5x0⟩) hHeld ?_
              case hyq5x0 => (intro wH hSw; (try dsimp only at hSw); go_simp; (try with_reducible rfl))
              simp only [Act.put, List.setIfInBounds_toArray, List.set_cons_zero, List.set_cons_succ]
              refine wpAnyH_take (i := 1) (v := ?vq5x1) nth1 (by kernel_rfl) (by kernel_rfl) (by kernel_rfl) (fun _ _ _ h => h) (Or.inl ⟨by rfl, ?hyq5x1⟩) hHeld ?_
              case hyq5x1 => (intro wH hSw; (try dsimp only at hSw); go_simp; (try with_reducible rfl))
              simp only [Act.put, List.setIfInBounds_toArray, List.set_cons_zero, List.set_cons_succ]
              refine wpAnyH_take (i := 2) (v := ?vq5x2) nth2 (by kernel_rfl) (by kernel_rfl) (by kernel_rfl) (fun _ _ _ h => h) (Or.inl ⟨by rfl, ?hyq5x2⟩) hHeld ?_
              case hyq5x2 => (intro wH hSw; (try dsimp only at hSw); go_simp; (try with_reducible rfl))
              simp only [Act.put, List.setIfInBounds_toArray, List.set_cons_zero, List.set_cons_succ]
              refine wpAnyH_take (i := 3) (v := ?vq5x3) nth3 (by kernel_rfl) (by kernel_rfl) (by kernel_rfl) (fun _ _ _ h => h) (Or.inl ⟨by rfl, ?hyq5x3⟩) hHeld ?_
              case hyq5x3 => (intro wH hSw; (try dsimp only at hSw); go_simp; (try with_reducible rfl))
              simp only [Act.put, List.setIfInBounds_toArray, List.set_cons_zero, List.set_cons_succ]
              refine wpAnyH_take (i := 4) (v := ?vq5x4) nth4 (by kernel_rfl) (by kernel_rfl) (by kernel_rfl) (fun _ _ _ h => h) (Or.inl ⟨by rfl, ?hyq5x4⟩) hHeld ?_
              case hyq5x4 => (intro wH hSw; (try dsimp only at hSw); go_simp; (try with_reducible rfl))
              simp only [Act.put, List.setIfInBounds_toArray, List.set_cons_zero, List.set_cons_succ]
              refine wpAnyH_take (i := 5) (v := ?vq5x5) nth5 (by kernel_rfl) (by kernel_rfl) (by kernel_rfl) (fun _ _ _ h => h) (Or.inl ⟨by rfl, ?hyq5x5⟩) hHeld ?_
              case hyq5x5 => (intro wH hSw; (try dsimp only at hSw); go_simp; (try with_reducible rfl))
              simp only [Act.put, List.setIfInBounds_toArray, List.set_cons_zero, List.set_cons_succ]
              refine wpAnyH_take (i := 6) (v := ?vq5x6) nth6 (by kernel_rfl) (by kernel_rfl) (by kernel_rfl) (fun _ _ _ h => h) (Or.inl ⟨by rfl, ?hyq5x6⟩) hHeld ?_
              case hyq5x6 => (intro wH hSw; (try dsimp only at hSw); go_simp; (try with_reducible rfl))
              simp only [Act.put, List.setIfInBounds_toArray, List.set_cons_zero, List.set_cons_succ]
              refine wpAnyH_take (i := 7) (v := ?vq5x7) nth7 (by kernel_rfl) (by kernel_rfl) (by kernel_rfl) (fun _ _ _ h => h) (Or.inl ⟨by rfl, ?hyq5x7⟩) hHeld ?_
              case hyq5x7 => (intro wH hSw; (try dsimp only at hSw); go_simp; (try with_reducible rfl))
              simp only [Act.put, List.setIfInBounds_toArray, List.set_cons_zero, List.set_cons_succ]
              refine wpAnyH_take (i := 8) (v := ?vq5x8) nth8 (by kernel_rfl) (by kernel_rfl) (by kernel_rfl) (fun _ _ _ h => h) (Or.inl ⟨by rfl, ?hyq5x8⟩) hHeld ?_
              case hyq5x8 => (intro wH hSw; (try dsimp only at hSw); go_simp; (try with_reducible rfl))
              simp only [Act.put, List.setIfInBounds_toArray, List.set_cons_zero, List.set_cons_succ]
              refine wpAnyH_take (i := 9) (v := ?vq5x9) nth9 (by kernel_rfl) (by kernel_rfl) (by kernel_rfl) (fun _ _ _ h => h) (Or.inl ⟨by rfl, ?hyq5x9⟩) hHeld ?_
              case hyq5x9 => (intro wH hSw; (try dsimp only at hSw); go_simp; (try with_reducible rfl))
              simp only [Act.put, List.setIfInBounds_toArray, List.set_cons_zero, List.set_cons_succ]
              refine wpAnyH_take (i := 10) (v := ?vq5x10) nth10 (by kernel_rfl) (by kernel_rfl) (by kernel_rfl) (fun _ _ _ h => h) (Or.inl ⟨by rfl, ?hyq5x10⟩) hHeld ?_
              case hyq5x10 => (intro wH hSw; (try dsimp only at hSw); go_simp; (try with_reducible rfl))
              simp only [Act.put, List.setIfInBounds_toArray, List.set_cons_zero, List.set_cons_succ]
              refine wpAnyH_take (i := 11) (v := ?vq5x11) nth11 (by kernel_rfl) (by kernel_rfl) (by kernel_rfl) (fun _ _ _ h => h) (Or.inl ⟨by rfl, ?hyq5x11⟩) hHeld ?_
              case hyq5x11 => (intro wH hSw; (try dsimp only at hSw); go_simp; (try with_reducible rfl))
              simp only [Act.put, List.setIfInBounds_toArray, List.set_cons_zero, List.set_cons_succ]
              refine wpAnyH_take (i := 12) (v := ?vq5x12) nth12 (by kernel_rfl) (by kernel_rfl) (by kernel_rfl) (fun _ _ _ h => h) (Or.inl ⟨by rfl, ?hyq5x12⟩) hHeld ?_
              case hyq5x12 => (intro wH hSw; (try dsimp only at hSw); go_simp; (try with_reducible rfl))
              simp only [Act.put, List.setIfInBounds_toArray, List.set_cons_zero, List.set_cons_succ]
              refine wpAnyH_take (i := 13) (v := undef) nth13 (by kernel_rfl) (by kernel_rfl) (by kernel_rfl) (fun _ _ _ h => h) (Or.inr ⟨by rfl, rfl⟩) hHeld ?_
              simp only [Act.put, List.setIfInBounds_toArray, List.set_cons_zero, List.set_cons_succ]
              refine wpAnyH_take (i := 14) (v := undef) nth14 (by kernel_rfl) (by kernel_rfl) (by kernel_rfl) (fun _ _ _ h => h) (Or.inr ⟨by rfl, rfl⟩) hHeld ?_
              simp only [Act.put, List.setIfInBounds_toArray, List.set_cons_zero, List.set_cons_succ]
              refine wpAnyH_take (i := 15) (v := undef) nth15 (by kernel_rfl) (by kernel_rfl) (by kernel_rfl) (fun _ _ _ h => h) (Or.inr ⟨by rfl, rfl⟩) hHeld ?_
              simp only [Act.put, List.setIfInBounds_toArray, List.set_cons_zero, List.set_cons_succ]
              refine wpAnyH_take (i := 16) (v := undef) nth16 (by kernel_rfl) (by kernel_rfl) (by kernel_rfl) (fun _ _ _ h => h) (Or.inr ⟨by rfl, rfl⟩) hHeld ?_
              simp only [Act.put, List.setIfInBounds_toArray, List.set_cons_zero, List.set_cons_succ]
              refine wpAnyH_take (i := 17) (v := undef) nth17 (by kernel_rfl) (by kernel_rfl) (by kernel_rfl) (fun _ _ _ h => h) (Or.inr ⟨by rfl, rfl⟩) hHeld ?_
              simp only [Act.put, List.setIfInBounds_toArray, List.set_cons_zero, List.set_cons_succ]
              refine wpAnyH_take (i := 18) (v := undef) nth18 (by kernel_rfl) (by kernel_rfl) (by kernel_rfl) (fun _ _ _ h => h) (Or.inr ⟨by rfl, rfl⟩) hHeld ?_
              simp only [Act.put, List.setIfInBounds_toArray, List.set_cons_zero, List.set_cons_succ]
              refine wpAnyH_take (i := 19) (v := undef) nth19 (by kernel_rfl) (by kernel_rfl) (by kernel_rfl) (fun _ _ _ h => h) (Or.inr ⟨by rfl, rfl⟩) hHeld ?_
              simp only [Act.put, List.setIfInBounds_toArray, List.set_cons_zero, List.set_cons_succ]
              refine wpAnyH_take (i := 20) (v := undef) nth20 (by kernel_rfl) (by kernel_rfl) (by kernel_rfl) (fun _ _ _ h => h) (Or.inr ⟨by rfl, rfl⟩) hHeld ?_
              simp only [Act.put, List.setIfInBounds_toArray, List.set_cons_zero, List.set_cons_succ]
              refine wpAnyH_take (i := 21) (v := undef) nth21 (by kernel_rfl) (by kernel_rfl) (by kernel_rfl) (fun _ _ _ h => h) (Or.inr ⟨by rfl, rfl⟩) hHeld ?_
              simp only [Act.put, List.setIfInBounds_toArray, List.set_cons_zero, List.set_cons_succ]
              refine wpAnyH_take (i := 22) (v := undef) nth22 (by kernel_rfl) (by kernel_rfl) (by kernel_rfl) (fun _ _ _ h => h) (Or.inr ⟨by rfl, rfl⟩) hHeld ?_
              simp only [Act.put, List.setIfInBounds_toArray, List.set_cons_zero, List.set_cons_succ]
              refine wpAnyH_take (i := 23) (v := undef) nth23 (by kernel_rfl) (by kernel_rfl) (by kernel_rfl) (fun _ _ _ h => h) (Or.inr ⟨by rfl, rfl⟩) hHeld ?_
              simp only [Act.put, List.setIfInBounds_toArray, List.set_cons_zero, List.set_cons_succ]
              refine wpAnyH_take (i := 24) (v := ?vq5x24) nth24 (by kernel_rfl) (by kernel_rfl) (by kernel_rfl) (fun _ _ _ h => h) (Or.inl ⟨by rfl, ?hyq5x24⟩) hHeld ?_
              case hyq5x24 => (intro wH hSw; (try dsimp only at hSw); go_simp; (try with_reducible rfl))
              simp only [Act.put, List.setIfInBounds_toArray, List.set_cons_zero, List.set_cons_succ]
              refine wpAnyH_take (i := 25) (v := ?vq5x25) nth25 (by kernel_rfl) (by kernel_rfl) (by kernel_rfl) (fun _ _ _ h => h) (Or.inl ⟨by rfl, ?hyq5x25⟩) hHeld ?_
              case hyq5x25 => (intro wH hSw; (try dsimp only at hSw); go_simp; (try with_reducible rfl))
              simp only [Act.put, List.setIfInBounds_toArray, List.set_cons_zero, List.set_cons_succ]
              refine wpAnyH_done (by kernel_rfl) ?_ _
              clear hHeld s
              go_wp2_with fail
              replace hB := hB.out
              rw [hnew.out] at hB
              go_roundw
              case rel => exact ⟨i + 1, by simp; omega, by omega, hB, bd⟩
              case measure => simp [intOf]; omega
        · obtain rfl : i = MM := by omega
          have hle4 : decide (y ≤ e1_) = false := by simp; omega
          obtain ⟨x0, x1, x2, x3, x4, x5⟩ := id k0
          obtain ⟨t0, t1, t2, t3, t4⟩ := id kt
          obtain ⟨⟨y20, y21⟩, y30, y31⟩ := (show ((wr.cell? ⟨b2, o2, none⟩ = some (.int .i64 a0_) ∧ wr.cell? ⟨b2, o2 + 1, none⟩ = some (.int .i64 a1_)) ∧ (wr.cell? ⟨b3, o3, none⟩ = some (.int .i64 e0_) ∧ wr.cell? ⟨b3, o3 + 1, none⟩ = some (.int .i64 e1_))) from (And.intro (And.intro (rowv hr.out.2.1 (Below.refl _ _) (k := 0) (by rw [h2.out]; omega) hx0.out) (rowv hr.out.2.1 (Below.refl _ _) (k := 1) (by rw [h2.out]; omega) hx1.out)) (And.intro (rowv hr.out.2.2 (Below.refl _ _) (k := 0) (by rw [h3.out]; omega) hx2.out) (rowv hr.out.2.2 (Below.refl _ _) (k := 1) (by rw [h3.out]; omega) hx3.out))))
          have y10 : wr.cell? ⟨bk1, ok1, none⟩ = some (.int .i64 l0_) := rowv hr.out.1 (Below.refl _ _) (k := 0) (by rw [h1.out]; omega) hl0.out
          have y11 : wr.cell? ⟨bk1, ok1 + 1, none⟩ = some (.int .i64 l1_) := rowv hr.out.1 (Below.refl _ _) (k := 1) (by rw [h1.out]; omega) hl1.out
          go_wp2_with fail
          clear x0 x1 x2 x3 x4 x5 t0 t1 t2 t3 t4 y20 y21 y30 y31 y10 y11
          go_roundw
          case rel => exact ⟨k + 1, by simp; omega, by omega, by rw [hstep.out, hb1.out]; exact hB, bc⟩
          case measure => simp [intOf]; omega
    · obtain rfl : k = KK := by omega
      have hle2 : decide (x ≤ e0_) = false := by simp; omega
      obtain ⟨x0, x1, x2, x3, x4, x5⟩ := id k0
      obtain ⟨t0, t1, t2, t3, t4⟩ := id kt
      obtain ⟨⟨y20, y21⟩, y30, y31⟩ := (show ((wr.cell? ⟨b2, o2, none⟩ = some (.int .i64 a0_) ∧ wr.cell? ⟨b2, o2 + 1, none⟩ = some (.int .i64 a1_)) ∧ (wr.cell? ⟨b3, o3, none⟩ = some (.int .i64 e0_) ∧ wr.cell? ⟨b3, o3 + 1, none⟩ = some (.int .i64 e1_))) from (And.intro (And.intro (rowv hr.out.2.1 (Below.refl _ _) (k := 0) (by rw [h2.out]; omega) hx0.out) (rowv hr.out.2.1 (Below.refl _ _) (k := 1) (by rw [h2.out]; omega) hx1.out)) (And.intro (rowv hr.out.2.2 (Below.refl _ _) (k := 0) (by rw [h3.out]; omega) hx2.out) (rowv hr.out.2.2 (Below.refl _ _) (k := 1) (by rw [h3.out]; omega) hx3.out))))
      have y10 : wr.cell? ⟨bk1, ok1, none⟩ = some (.int .i64 l0_) := rowv hr.out.1 (Below.refl _ _) (k := 0) (by rw [h1.out]; omega) hl0.out
      have y11 : wr.cell? ⟨bk1, ok1 + 1, none⟩ = some (.int .i64 l1_) := rowv hr.out.1 (Below.refl _ _) (k := 1) (by rw [h1.out]; omega) hl1.out
      go_wp2_with fail
      clear x0 x1 x2 x3 x4 x5 t0 t1 t2 t3 t4 y20 y21 y30 y31 y10 y11
      rw [← hfound.out, hfin.out] at hB
      obtain ⟨d, _, hB, _⟩ := hB.out
      go_ret
      exact ints_fin rfl hB bb.out
end Go.Proofs.YtmainffjekjlnaaDoor
