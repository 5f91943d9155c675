/- Contracts of the points of an arm and of its tip, in both packages. -/
import Derived.Test.YtmainffjekjlnaaDoorReach
import Derived.Test.YtmainffjekjlnaaDoorClone
import Derived.Test.YtmainffjekjlnaaDoorTurn
import Derived.Test.YtmainffjekjlnaaDoorPts
import Derived.Deep.AppendLies
import Derived.Deep.DeepCutAuto
namespace Go.Proofs.YtmainffjekjlnaaDoor
open Go.ChangeShapes Go.WideShapes Go.ChangeAt Go.RowKit
set_option linter.unusedVariables false
theorem M.mulc_bd {x c : Int} (h1 : 0 ≤ x) (h2 : x ≤ 600) (h3 : -4096 ≤ c) (h4 : c ≤ 4096) : -2457600 ≤ x * c ∧ x * c ≤ 2457600 := by
  have e1 : x * c ≤ x * 4096 := Int.mul_le_mul_of_nonneg_left h4 h1
  have e2 : x * (-4096) ≤ x * c := Int.mul_le_mul_of_nonneg_left h3 h1
  omega
/-- a turned link is hardly longer than the link -/
theorem M.tx_bd {x : Int} (d : Int) (h1 : 0 ≤ x) (h2 : x ≤ 600) : (-601 ≤ M.tx x 0 d ∧ M.tx x 0 d ≤ 601) ∧ (-601 ≤ M.ty x 0 d ∧ M.ty x 0 d ≤ 601) := by
  obtain ⟨⟨⟨s1, s2⟩, ⟨s3, s4⟩⟩, _⟩ := trig d
  have a := M.mulc_bd h1 h2 s3 s4
  have b := M.mulc_bd h1 h2 s1 s2
  unfold M.tx M.ty M.rd
  rw [Int.zero_mul, Int.zero_mul, Int.sub_zero, Int.add_zero]
  omega
def M.pxT (l j : List Int) : Nat → Int
  | 0 => 0
  | k + 1 => M.pxT l j k + M.tx (l.getD k 0) 0 (M.sumT j (k + 1))
def M.pyT (l j : List Int) : Nat → Int
  | 0 => 0
  | k + 1 => M.pyT l j k + M.ty (l.getD k 0) 0 (M.sumT j (k + 1))
theorem M.pT_bd {l j : List Int} : ∀ {k : Nat}, (∀ i, i < k → 0 ≤ l.getD i 0 ∧ l.getD i 0 ≤ 600) → (-(601 * (k : Int)) ≤ M.pxT l j k ∧ M.pxT l j k ≤ 601 * k) ∧ (-(601 * (k : Int)) ≤ M.pyT l j k ∧ M.pyT l j k ≤ 601 * k) := by
  intro k
  induction k with
  | zero => intro _; unfold M.pxT M.pyT; simp
  | succ k ih =>
    intro h
    have h1 := ih (fun i hi => h i (by omega))
    have h2 := h k (by omega)
    have h3 := M.tx_bd (M.sumT j (k + 1)) h2.1 h2.2
    unfold M.pxT M.pyT
    rw [Int.natCast_succ]
    omega
theorem M.sumJ_bd {j : List Int} : ∀ {k : Nat}, (∀ i, i < k → -1000 ≤ j.getD i 0 ∧ j.getD i 0 ≤ 1000) → -(1000 * (k : Int)) ≤ M.sumT j k ∧ M.sumT j k ≤ 1000 * k := by
  intro k
  induction k with
  | zero => intro _; unfold M.sumT; simp
  | succ k ih =>
    intro h
    have h1 := ih (fun i hi => h i (by omega))
    have h2 := h k (by omega)
    unfold M.sumT
    rw [Int.natCast_succ]
    omega
/-- the points from the base to the end of link k -/
def M.pts (l j : List Int) (k : Nat) : List (Int × Int) := (List.range (k + 1)).map fun i => (M.pxT l j i, M.pyT l j i)
theorem M.pts_len (l j : List Int) (k : Nat) : (M.pts l j k).length = k + 1 := by simp [M.pts]
theorem M.pts_zero (l j : List Int) : M.pts l j 0 = [(0, 0)] := rfl
theorem M.pts_succ (l j : List Int) (k : Nat) : M.pts l j (k + 1) = M.pts l j k ++ [(M.pxT l j (k + 1), M.pyT l j (k + 1))] := by simp [M.pts, List.range_succ]
theorem M.pts_at (l j : List Int) {k i : Nat} (h : i ≤ k) : (M.pts l j k).getD i (0, 0) = (M.pxT l j i, M.pyT l j i) := by
  rw [List.getD_eq_getElem?_getD, List.getElem?_eq_getElem (by rw [M.pts_len]; omega)]
  simp [M.pts]
theorem M.pvB_link {x : Int} (h1 : 0 ≤ x) (h2 : x ≤ 600) : M.pvB x 0 = true := M.pvB_true.2 ⟨by omega, by omega, by omega, by omega⟩
theorem OwnsP.base2 {w : World} {B B' : Nat} {v : Value} {l : List (Int × Int)} (h : OwnsP w B v l) (hB : B' ≤ B) : OwnsP w B' v l := by
  obtain ⟨h1, h2⟩ := h
  refine ⟨h1, ?_⟩
  rcases h2 with h2 | ⟨g, cap, cur, e, hg, r⟩
  · exact .inl h2
  · exact .inr ⟨g, cap, cur, e, by omega, r⟩
theorem OwnsP.after {w w' : World} {B : Nat} {v : Value} {l : List (Int × Int)} (h : OwnsP w B v l) (hb : Below w.heap.size w w') : OwnsP w' B v l := h.old hb
theorem OwnsP.grown {w w' : World} {B : Nat} {v : Value} {l : List (Int × Int)} {r : Option Nat} (h : OwnsP w B v l) (hg : w.grownBy w' r) (hr : v.ownBlock = none ∨ v.ownBlock ≠ r) : OwnsP w' B v l := World.ownsRow.kept h hg hr
theorem OwnsP.lit (w : World) (x y : Int) {B : Nat} (hB : B ≤ w.heap.size) : OwnsP (w.alloc (.cells #[.int .i64 x, .int .i64 y] 27)) B (.slice (some ⟨w.heap.size, 0, none⟩) 1 1) [(x, y)] :=
  World.ownsRow_lit (base := B) (e := 27) (size := 2) w #[.int .i64 x, .int .i64 y] 1 hB (by unfold maxLen; omega) rfl
theorem Slot.after {w w' : World} {k : Nat} {x y : Int} (h : Slot w k x y) (hb : Below w.heap.size w w') : Slot w' k x y := h.below hb h.2.2.2.2
theorem Slot.grown {w w' : World} {k : Nat} {x y : Int} {r : Option Nat} (h : Slot w k x y) (hg : w.grownBy w' r) (hr : some k ≠ r) : Slot w' k x y := by
  have hb := hg.block k h.2.2.2.2 hr
  exact ⟨(World.cell?_of_block (w := w) hb).trans h.1, (World.cell?_of_block (w := w) hb).trans h.2.1, (World.frozen?_of_block (w := w) hb).trans h.2.2.1, (World.frozen?_of_block (w := w) hb).trans h.2.2.2.1, Nat.lt_of_lt_of_le h.2.2.2.2 hg.size⟩
theorem Slot.put2 {w : World} {k : Nat} {x y : Int} (h : Slot w k x y) (a b : Int) : Slot ((w.setCell ⟨k, 0, none⟩ (.int .i64 a)).setCell ⟨k, 1, none⟩ (.int .i64 b)) k a b := by
  obtain ⟨h1, h2, h3, h4, h5⟩ := h
  have e1 : (w.setCell ⟨k, 0, none⟩ (.int .i64 a)).cell? ⟨k, 0, none⟩ = some (.int .i64 a) := World.cell?_setCell_same w ⟨k, 0, none⟩ (.int .i64 a) h1
  have e2 : (w.setCell ⟨k, 0, none⟩ (.int .i64 a)).cell? ⟨k, 1, none⟩ = some (.int .i64 y) := by rw [World.cell?_setCell_other _ _ _ _ (by simp)]; exact h2
  refine ⟨?_, World.cell?_setCell_same _ ⟨k, 1, none⟩ (.int .i64 b) e2, by simp [h3], by simp [h4], by simpa [World.setCell] using h5⟩
  rw [World.cell?_setCell_other _ _ _ _ (by simp)]; exact e1
theorem grown_set2 (w : World) (k : Nat) (u v : Value) : w.grownBy ((w.setCell ⟨k, 0, none⟩ u).setCell ⟨k, 1, none⟩ v) (some k) := by
  have h1 := grown_set w k 0 u
  have h2 := grown_set (w.setCell ⟨k, 0, none⟩ u) k 1 v
  exact ⟨rfl, rfl, rfl, Nat.le_trans h1.size h2.size, fun i hi hn => (h2.block i (Nat.lt_of_lt_of_le hi h1.size) hn).trans (h1.block i hi hn)⟩
theorem two_new' (w : World) (x y : Int) (t : TypeId) : ∀ j u, [Value.int .i64 x, .int .i64 y][j]? = some u → (w.alloc (.cells #[.int .i64 x, .int .i64 y] t)).cell? ((⟨w.heap.size, 0, none⟩ : Addr).add j) = some u := by
  intro j u hj
  have hb := Box.new w x y t
  match j, hj with
  | 0, hj => simp at hj; subst hj; exact hb.1
  | 1, hj => simp at hj; subst hj; exact hb.2.1
theorem two_one' (x y : Int) : ∀ u ∈ [Value.int .i64 x, .int .i64 y], u.oneCell' = true := by intro u hu; simp at hu; rcases hu with rfl | rfl <;> rfl
/-- the points grow by one; the moving point's block stays apart -/
theorem OwnsP.grows {w w1 : World} {B g c S : Nat} {v : Value} {l : List (Int × Int)} {x y : Int} {o : Obj} (h : OwnsP w B v l) (hv : v.ownBlock ≠ some S) (hS : S < w.heap.size) (hB : B ≤ w.heap.size)
    (hown : w1.ownsRow B 27 2 (.slice (some ⟨g, 0, none⟩) (l.length + 1) c) (l.length + 1) (ptCells l ++ [.int .i64 x, .int .i64 y])) (hg : (w.alloc o).grownBy w1 v.ownBlock) (hat : v.ownBlock = some g ∨ g = w.heap.size + 1) :
    OwnsP w1 B (.slice (some ⟨g, 0, none⟩) (l.length + 1) c) (l ++ [(x, y)]) ∧ (Value.slice (some ⟨g, 0, none⟩) (l.length + 1) c).ownBlock ≠ some S ∧ Below B w w1 := by
  refine ⟨?_, ?_, ((Below.refl B w).alloc hB o).grown hg (by simp; omega) (fun k hk => (World.ownsRow.lt h k hk).1)⟩
  · unfold OwnsP
    rw [ptCells_push, List.length_append]
    exact hown
  · show some g ≠ some S
    rcases hat with e | e
    · rw [← e]; exact hv
    · intro e2; injection e2; omega
theorem pts_ret {w w' : World} {v : Value} {l l' : List (Int × Int)} (he : l' = l) (ho : OwnsP w' w.heap.size v l') (hb : Below w.heap.size w w') : PtsOut w l (.returned v) w' := ⟨v, rfl, he ▸ ho, hb⟩
set_option maxRecDepth 20000 in
set_option maxHeartbeats 8000000 in
theorem impl_points (a1 a2 a3 aj : Option Addr) (n1 c1 n2 c2 n3 c3 m cm : Nat) (l j : List Int) (w : World) (hT : Tables w) (h1 : l.length = n1) (h4 : j.length = m) (hm : m ≤ n1 ∧ n1 ≤ m) (hm4 : m ≤ 4) (hr : Row w w.heap.size a1 l) (hj : Row w w.heap.size aj j) (hl : ∀ i, i < m → 0 ≤ l.getD i 0 ∧ l.getD i 0 ≤ 600) (hjb : ∀ i, i < m → -1000 ≤ j.getD i 0 ∧ j.getD i 0 ≤ 1000) :
    Calls Tryd.prog 63 #[.agg #[.slice a1 n1 c1, .slice a2 n2 c2, .slice a3 n3 c3], .slice aj m cm] w (PtsOut w (M.pts l j m)) := by
  obtain ⟨i0, hi0, hz0, hz1, hz2⟩ := info_parts infoPt
  obtain ⟨hm1, hm2⟩ := hm
  replace h1 := Lib.hid h1
  replace h4 := Lib.hid h4
  replace hl := Lib.hid hl
  replace hjb := Lib.hid hjb
  replace hr := Lib.hid hr
  replace hj := Lib.hid hj
  replace hT := Lib.hid hT
  have bb := Lib.hid (bel_after (bel_after (bel_new w (.cells #[.slice a1 n1 c1, .slice a2 n2 c2, .slice a3 n3 c3] 25)) (bel_new (w.alloc (.cells #[.slice a1 n1 c1, .slice a2 n2 c2, .slice a3 n3 c3] 25)) (.cells #[.int .i64 0, .int .i64 0] 27))) (bel_new ((w.alloc (.cells #[.slice a1 n1 c1, .slice a2 n2 c2, .slice a3 n3 c3] 25)).alloc (.cells #[.int .i64 0, .int .i64 0] 27)) (.cells #[.int .i64 0, .int .i64 0] 27)))
  have e1 := World.size_alloc w (.cells #[.slice a1 n1 c1, .slice a2 n2 c2, .slice a3 n3 c3] 25)
  have e2 := World.size_alloc (w.alloc (.cells #[.slice a1 n1 c1, .slice a2 n2 c2, .slice a3 n3 c3] 25)) (.cells #[.int .i64 0, .int .i64 0] 27)
  have e3 := World.size_alloc ((w.alloc (.cells #[.slice a1 n1 c1, .slice a2 n2 c2, .slice a3 n3 c3] 25)).alloc (.cells #[.int .i64 0, .int .i64 0] 27)) (.cells #[.int .i64 0, .int .i64 0] 27)
  have k0 := ((Cell3.new w (.slice a1 n1 c1) (.slice a2 n2 c2) (.slice a3 n3 c3) 25).alloc (.cells #[.int .i64 0, .int .i64 0] 27)).alloc (.cells #[.int .i64 0, .int .i64 0] 27)
  have ho := (OwnsP.lit (w.alloc (.cells #[.slice a1 n1 c1, .slice a2 n2 c2, .slice a3 n3 c3] 25)) 0 0 (B := w.heap.size + 1) (Nat.le_of_eq e1.symm)).after (bel_new ((w.alloc (.cells #[.slice a1 n1 c1, .slice a2 n2 c2, .slice a3 n3 c3] 25)).alloc (.cells #[.int .i64 0, .int .i64 0] 27)) (.cells #[.int .i64 0, .int .i64 0] 27))
  have hs := Slot.new ((w.alloc (.cells #[.slice a1 n1 c1, .slice a2 n2 c2, .slice a3 n3 c3] 25)).alloc (.cells #[.int .i64 0, .int .i64 0] 27)) 0 0 27
  rw [e1] at e2
  rw [e2] at e3
  rw [e1] at ho
  rw [e2] at hs
  go_enter Tryd.func63, Tryd.ntmps63
  obtain ⟨x0, x1, x2, x3, x4, x5⟩ := id k0
  go_wp2_with fail
  clear x0 x1 x2 x3 x4 x5
  generalize ((w.alloc (.cells #[.slice a1 n1 c1, .slice a2 n2 c2, .slice a3 n3 c3] 25)).alloc (.cells #[.int .i64 0, .int .i64 0] 27)).alloc (.cells #[.int .i64 0, .int .i64 0] 27) = v at *
  clear e1 e2
  replace e3 := Lib.hid e3
  replace ho := Lib.hid ho
  replace hs := Lib.hid hs
  have hbv := Lib.hid (Below.refl (w.heap.size + 1) v)
  obtain ⟨v0, rfl⟩ : ∃ u : World, u = v := ⟨_, rfl⟩
  go_loopw [5, 7, 17] (fun v d i wr => ∃ k : Nat, i = .int .i64 k ∧ k ≤ m ∧ d = .int .i64 (M.sumT j k) ∧ Hid (OwnsP wr (w.heap.size + 1) v (M.pts l j k)) ∧ Hid (v.ownBlock ≠ some (w.heap.size + 1 + 1)) ∧ Hid (Slot wr (w.heap.size + 1 + 1) (M.pxT l j k) (M.pyT l j k)) ∧ Hid (Below (w.heap.size + 1) v0 wr) ∧ Hid (Below w.heap.size w wr)) (fun _ _ i _ => m - (intOf i).toNat)
  case atStart => exact ⟨0, rfl, Nat.zero_le _, rfl, ho, (by intro e; have e2 : some (w.heap.size + 1) = some (w.heap.size + 1 + 1) := e; injection e2; omega), hs, hbv, bb⟩
  case round =>
    obtain ⟨k, rfl, hk, rfl, ho, hv, hs, hbv, hbw⟩ := hrel
    have hlen := Lib.hid (M.pts_len l j k)
    have hsz : w.heap.size + 1 + 1 < wr.heap.size := by have h1 := hbv.out.size; have h2 := e3.out; omega
    by_cases hlt : k < m
    · obtain ⟨b1, o1, rfl⟩ := hr.out.form (by rw [h1.out]; omega)
      obtain ⟨b4, o4, rfl⟩ := hj.out.form (by rw [h4.out]; omega)
      obtain ⟨x0, x1, x2, x3, x4, x5⟩ := k0.below hbv.out (Nat.lt_succ_self _)
      have y1 := hr.out.cell hbw.out (k := k) (by rw [h1.out]; omega)
      have y2 := hj.out.cell hbw.out (k := k) (by rw [h4.out]; omega)
      obtain ⟨u1, u2⟩ := hl.out k hlt
      obtain ⟨u3, u4⟩ := hjb.out k hlt
      obtain ⟨u5, u6⟩ := M.sumJ_bd (j := j) (k := k) (fun i hi => hjb.out i (by omega))
      obtain ⟨⟨u7, u8⟩, ⟨u9, u10⟩⟩ := M.pT_bd (l := l) (j := j) (k := k) (fun i hi => hl.out i (by omega))
      have hd1 := Lib.hid (show M.sumT j (k + 1) = M.sumT j k + j.getD k 0 from rfl)
      have hx1 := Lib.hid (show M.pxT l j (k + 1) = M.pxT l j k + M.tx (l.getD k 0) 0 (M.sumT j k + j.getD k 0) from rfl)
      have hy1 := Lib.hid (show M.pyT l j (k + 1) = M.pyT l j k + M.ty (l.getD k 0) 0 (M.sumT j k + j.getD k 0) from rfl)
      generalize l.getD k 0 = x at *
      generalize j.getD k 0 = y at *
      generalize hd0 : M.sumT j k = d at *
      generalize hpx : M.pxT l j k = px at *
      generalize hpy : M.pyT l j k = py at *
      clear hd0 hpx hpy
      obtain ⟨⟨t1, t2⟩, ⟨t3, t4⟩⟩ := M.tx_bd (d + y) u1 u2
      have hrot := Lib.hid (M.rot_yes (d + y) (M.pvB_link u1 u2))
      have hk1 : (k : Int) < (n1 : Int) := by omega
      have hk4 : (k : Int) < (m : Int) := by omega
      go_wp2_with fail
      refine (impl_rot x 0 (d + y) _ (hT.out.later hbw.out)).mono ?_
      rintro e w1 ⟨rfl, q⟩
      rw [hrot.out.1, hrot.out.2]
      replace ho := Lib.hid (ho.out.after q)
      replace hs := Lib.hid (hs.out.after q)
      replace hbv := Lib.hid (hbv.out.trans (q.mono (by omega)))
      replace hbw := Lib.hid (bel_after hbw.out q)
      replace hsz := Nat.lt_of_lt_of_le hsz q.size
      clear q hrot x0 x1 x2 x3 x4 x5 y1 y2
      generalize M.tx x 0 (d + y) = tx at *
      generalize M.ty x 0 (d + y) = ty at *
      go_upto_region 8 with fail
      have kv := Slot.new w1 tx ty 27
      have q := bel_new w1 (.cells #[.int .i64 tx, .int .i64 ty] 27)
      replace ho := Lib.hid (ho.out.after q)
      replace hs := Lib.hid (hs.out.after q)
      replace hbv := Lib.hid (hbv.out.trans (q.mono (by omega)))
      replace hbw := Lib.hid (bel_after hbw.out q)
      have hsV := hsz
      replace hsz := Nat.lt_of_lt_of_le hsz q.size
      clear q
      generalize hV : w1.heap.size = V at kv hsV ⊢
      clear hV
      generalize w1.alloc (.cells #[.int .i64 tx, .int .i64 ty] 27) = w2 at *
      obtain ⟨p1, p2, p3, p4, p5⟩ := id hs.out
      obtain ⟨p6, p7, p8, p9, p10⟩ := id kv
      have nV : V ≠ w.heap.size + 1 + 1 := by omega
      have nV2 : w.heap.size + 1 + 1 ≠ V := by omega
      go_upto_region 9 with fail
      have g2 := grown_set2 w2 (w.heap.size + 1 + 1) (.int .i64 (px + tx)) (.int .i64 (py + ty))
      replace ho := Lib.hid (ho.out.grown g2 (.inr hv.out))
      replace hs := Lib.hid (hs.out.put2 (px + tx) (py + ty))
      replace hbv := Lib.hid (hbv.out.grown g2 (by omega) (by intro i hi; injection hi; omega))
      replace hbw := Lib.hid (hbw.out.grown g2 (by omega) (by intro i hi; injection hi; omega))
      replace hsz := Nat.lt_of_lt_of_le hsz g2.size
      clear g2 p1 p2 p3 p4 p5 p6 p7 p8 p9 p10 kv
      generalize (w2.setCell ⟨w.heap.size + 1 + 1, 0, none⟩ (.int .i64 (px + tx))).setCell ⟨w.heap.size + 1 + 1, 1, none⟩ (.int .i64 (py + ty)) = w3 at *
      obtain ⟨p1, p2, p3, p4, p5⟩ := id hs.out
      go_wp2_with (at_builtin; refine wpList_append_lies _ rfl _ _ 77 rfl (w.heap.size + 1) 27 i0 (.agg #[.int .i64 0, .int .i64 0]) 2 16 Tryd.underlying77 hi0 hz0 hz1 hz2 rfl (by decide) _ _ _ rfl (World.ownsRow.alloc ho.out _) ⟨w3.heap.size, 0, none⟩ 1 1 [.int .i64 (px + tx), .int .i64 (py + ty)] rfl rfl (two_new' _ _ _ _) (two_one' _ _) (by decide) ?c3 ?c4 ?c5 (w3.heap.size + 1) (by simp) ?_)
      case c3 => rw [hlen.out]; unfold maxLen; omega
      case c4 => rw [hlen.out]; omega
      case c5 => simp; omega
      intro g cap w4 hown hgrow hat hlt4
      obtain ⟨ho4, hv4, hb4⟩ := ho.out.grows hv.out p5 (by omega) hown hgrow hat
      have hs4 := Lib.hid ((hs.out.after (bel_new w3 (.cells #[.int .i64 (px + tx), .int .i64 (py + ty)] 27))).grown hgrow (fun e => hv.out e.symm))
      replace ho4 := Lib.hid ho4
      replace hv4 := Lib.hid hv4
      replace hbv := Lib.hid (hbv.out.trans (hb4.mono (by omega)))
      replace hbw := Lib.hid (hbw.out.trans (hb4.mono (by omega)))
      clear hown hgrow hat ho hs hb4 p1 p2 p3 p4 p5
      go_wp2_with fail
      go_roundw
      case rel => exact ⟨k + 1, by go_num, by omega, by rw [hd1.out], by rw [M.pts_succ, hx1.out, hy1.out]; exact ho4, hv4, by rw [hx1.out, hy1.out]; exact hs4, hbv, hbw⟩
      case measure => simp [intOf]; omega
    · obtain rfl : k = m := by omega
      have hfin := Lib.hid (ho.out.base2 (B' := w.heap.size) (by omega))
      clear ho
      obtain ⟨x0, x1, x2, x3, x4, x5⟩ := k0.below hbv.out (Nat.lt_succ_self _)
      go_wp2_with fail
      go_ret
      exact pts_ret rfl hfin.out hbw.out
set_option maxRecDepth 20000 in
set_option maxHeartbeats 8000000 in
theorem spec_points (a1 a2 a3 aj : Option Addr) (n1 c1 n2 c2 n3 c3 m cm : Nat) (l j : List Int) (w : World) (h1 : l.length = n1) (h4 : j.length = m) (hm : m ≤ n1 ∧ n1 ≤ 1000000) (hm4 : m ≤ 4) (hr : Row w w.heap.size a1 l) (hj : Row w w.heap.size aj j) (hl : ∀ i, i < m → 0 ≤ l.getD i 0 ∧ l.getD i 0 ≤ 600) (hjb : ∀ i, i < m → -1000 ≤ j.getD i 0 ∧ j.getD i 0 ≤ 1000) :
    Calls Tryd.prog 70 #[.agg #[.slice a1 n1 c1, .slice a2 n2 c2, .slice a3 n3 c3], .slice aj m cm] w (PtsOut w (M.pts l j m)) := by
  obtain ⟨i0, hi0, hz0, hz1, hz2⟩ := info_parts infoPt
  obtain ⟨hm1, hm2⟩ := hm
  replace h1 := Lib.hid h1
  replace h4 := Lib.hid h4
  replace hl := Lib.hid hl
  replace hjb := Lib.hid hjb
  replace hr := Lib.hid hr
  replace hj := Lib.hid hj
  have bb := Lib.hid (bel_after (bel_after (bel_new w (.cells #[.slice a1 n1 c1, .slice a2 n2 c2, .slice a3 n3 c3] 25)) (bel_new (w.alloc (.cells #[.slice a1 n1 c1, .slice a2 n2 c2, .slice a3 n3 c3] 25)) (.cells #[.int .i64 0, .int .i64 0] 27))) (bel_new ((w.alloc (.cells #[.slice a1 n1 c1, .slice a2 n2 c2, .slice a3 n3 c3] 25)).alloc (.cells #[.int .i64 0, .int .i64 0] 27)) (.cells #[.int .i64 0, .int .i64 0] 27)))
  have e1 := World.size_alloc w (.cells #[.slice a1 n1 c1, .slice a2 n2 c2, .slice a3 n3 c3] 25)
  have e2 := World.size_alloc (w.alloc (.cells #[.slice a1 n1 c1, .slice a2 n2 c2, .slice a3 n3 c3] 25)) (.cells #[.int .i64 0, .int .i64 0] 27)
  have e3 := World.size_alloc ((w.alloc (.cells #[.slice a1 n1 c1, .slice a2 n2 c2, .slice a3 n3 c3] 25)).alloc (.cells #[.int .i64 0, .int .i64 0] 27)) (.cells #[.int .i64 0, .int .i64 0] 27)
  have k0 := ((Cell3.new w (.slice a1 n1 c1) (.slice a2 n2 c2) (.slice a3 n3 c3) 25).alloc (.cells #[.int .i64 0, .int .i64 0] 27)).alloc (.cells #[.int .i64 0, .int .i64 0] 27)
  have hs := (Slot.new (w.alloc (.cells #[.slice a1 n1 c1, .slice a2 n2 c2, .slice a3 n3 c3] 25)) 0 0 27).after (bel_new ((w.alloc (.cells #[.slice a1 n1 c1, .slice a2 n2 c2, .slice a3 n3 c3] 25)).alloc (.cells #[.int .i64 0, .int .i64 0] 27)) (.cells #[.int .i64 0, .int .i64 0] 27))
  have ho := OwnsP.lit ((w.alloc (.cells #[.slice a1 n1 c1, .slice a2 n2 c2, .slice a3 n3 c3] 25)).alloc (.cells #[.int .i64 0, .int .i64 0] 27)) 0 0 (B := w.heap.size + 1 + 1) (by rw [e2, e1]; exact Nat.le_refl _)
  rw [e1] at e2
  rw [e2] at e3
  rw [e1] at hs
  rw [e2] at ho
  go_enter Tryd.func70, Tryd.ntmps70
  obtain ⟨x0, x1, x2, x3, x4, x5⟩ := id k0
  go_wp2_with fail
  clear x0 x1 x2 x3 x4 x5
  generalize ((w.alloc (.cells #[.slice a1 n1 c1, .slice a2 n2 c2, .slice a3 n3 c3] 25)).alloc (.cells #[.int .i64 0, .int .i64 0] 27)).alloc (.cells #[.int .i64 0, .int .i64 0] 27) = v at *
  clear e1 e2
  replace e3 := Lib.hid e3
  replace ho := Lib.hid ho
  replace hs := Lib.hid hs
  have hbv := Lib.hid (Below.refl (w.heap.size + 1) v)
  obtain ⟨v0, rfl⟩ : ∃ u : World, u = v := ⟨_, rfl⟩
  go_loopw [6, 7, 8] (fun d v i wr => ∃ k : Nat, i = .int .i64 k ∧ k ≤ m ∧ d = .int .i64 (M.sumT j k) ∧ Hid (OwnsP wr (w.heap.size + 1 + 1) v (M.pts l j k)) ∧ Hid (v.ownBlock ≠ some (w.heap.size + 1)) ∧ Hid (Slot wr (w.heap.size + 1) (M.pxT l j k) (M.pyT l j k)) ∧ Hid (Below (w.heap.size + 1) v0 wr) ∧ Hid (Below w.heap.size w wr)) (fun _ _ i _ => m - (intOf i).toNat)
  case atStart => exact ⟨0, rfl, Nat.zero_le _, rfl, ho, (by intro e; have e2 : some (w.heap.size + 1 + 1) = some (w.heap.size + 1) := e; injection e2; omega), hs, hbv, bb⟩
  case round =>
    obtain ⟨k, rfl, hk, rfl, ho, hv, hs, hbv, hbw⟩ := hrel
    have hlen := Lib.hid (M.pts_len l j k)
    have hsz : w.heap.size + 1 + 1 < wr.heap.size := by have h1 := hbv.out.size; have h2 := e3.out; omega
    by_cases hlt : k < m
    · obtain ⟨b1, o1, rfl⟩ := hr.out.form (by rw [h1.out]; omega)
      obtain ⟨b4, o4, rfl⟩ := hj.out.form (by rw [h4.out]; omega)
      obtain ⟨x0, x1, x2, x3, x4, x5⟩ := k0.below hbv.out (Nat.lt_succ_self _)
      have y1 := hr.out.cell hbw.out (k := k) (by rw [h1.out]; omega)
      have y2 := hj.out.cell hbw.out (k := k) (by rw [h4.out]; omega)
      obtain ⟨u1, u2⟩ := hl.out k hlt
      obtain ⟨u3, u4⟩ := hjb.out k hlt
      obtain ⟨u5, u6⟩ := M.sumJ_bd (j := j) (k := k) (fun i hi => hjb.out i (by omega))
      obtain ⟨⟨u7, u8⟩, ⟨u9, u10⟩⟩ := M.pT_bd (l := l) (j := j) (k := k) (fun i hi => hl.out i (by omega))
      have hd1 := Lib.hid (show M.sumT j (k + 1) = M.sumT j k + j.getD k 0 from rfl)
      have hx1 := Lib.hid (show M.pxT l j (k + 1) = M.pxT l j k + M.tx (l.getD k 0) 0 (M.sumT j k + j.getD k 0) from rfl)
      have hy1 := Lib.hid (show M.pyT l j (k + 1) = M.pyT l j k + M.ty (l.getD k 0) 0 (M.sumT j k + j.getD k 0) from rfl)
      generalize l.getD k 0 = x at *
      generalize j.getD k 0 = y at *
      generalize hd0 : M.sumT j k = d at *
      generalize hpx : M.pxT l j k = px at *
      generalize hpy : M.pyT l j k = py at *
      clear hd0 hpx hpy
      obtain ⟨⟨t1, t2⟩, ⟨t3, t4⟩⟩ := M.tx_bd (d + y) u1 u2
      have hrot := Lib.hid (M.rot_yes (d + y) (M.pvB_link u1 u2))
      have hk1 : (k : Int) < (n1 : Int) := by omega
      have hk4 : (k : Int) < (m : Int) := by omega
      go_wp2_with fail
      refine (l2_turn x 0 (d + y) _ (by omega) (by omega) (by omega) (by omega)).mono ?_
      rintro e w1 ⟨rfl, q⟩
      skip
      replace ho := Lib.hid (ho.out.after q)
      replace hs := Lib.hid (hs.out.after q)
      replace hbv := Lib.hid (hbv.out.trans (q.mono (by omega)))
      replace hbw := Lib.hid (bel_after hbw.out q)
      replace hsz := Nat.lt_of_lt_of_le hsz q.size
      clear q hrot x0 x1 x2 x3 x4 x5 y1 y2
      generalize M.tx x 0 (d + y) = tx at *
      generalize M.ty x 0 (d + y) = ty at *
      go_upto_region 9 with fail
      have kv := Slot.new w1 tx ty 27
      have q := bel_new w1 (.cells #[.int .i64 tx, .int .i64 ty] 27)
      replace ho := Lib.hid (ho.out.after q)
      replace hs := Lib.hid (hs.out.after q)
      replace hbv := Lib.hid (hbv.out.trans (q.mono (by omega)))
      replace hbw := Lib.hid (bel_after hbw.out q)
      have hsV := hsz
      replace hsz := Nat.lt_of_lt_of_le hsz q.size
      clear q
      generalize hV : w1.heap.size = V at kv hsV ⊢
      clear hV
      generalize w1.alloc (.cells #[.int .i64 tx, .int .i64 ty] 27) = w2 at *
      obtain ⟨p1, p2, p3, p4, p5⟩ := id hs.out
      obtain ⟨p6, p7, p8, p9, p10⟩ := id kv
      have nV : V ≠ w.heap.size + 1 := by omega
      have nV2 : w.heap.size + 1 ≠ V := by omega
      go_upto_region 10 with fail
      have g2 := grown_set2 w2 (w.heap.size + 1) (.int .i64 (px + tx)) (.int .i64 (py + ty))
      replace ho := Lib.hid (ho.out.grown g2 (.inr hv.out))
      replace hs := Lib.hid (hs.out.put2 (px + tx) (py + ty))
      replace hbv := Lib.hid (hbv.out.grown g2 (by omega) (by intro i hi; injection hi; omega))
      replace hbw := Lib.hid (hbw.out.grown g2 (by omega) (by intro i hi; injection hi; omega))
      replace hsz := Nat.lt_of_lt_of_le hsz g2.size
      clear g2 p1 p2 p3 p4 p5 p6 p7 p8 p9 p10 kv
      generalize (w2.setCell ⟨w.heap.size + 1, 0, none⟩ (.int .i64 (px + tx))).setCell ⟨w.heap.size + 1, 1, none⟩ (.int .i64 (py + ty)) = w3 at *
      obtain ⟨p1, p2, p3, p4, p5⟩ := id hs.out
      go_wp2_with (at_builtin; refine wpList_append_lies _ rfl _ _ 77 rfl (w.heap.size + 1 + 1) 27 i0 (.agg #[.int .i64 0, .int .i64 0]) 2 16 Tryd.underlying77 hi0 hz0 hz1 hz2 rfl (by decide) _ _ _ rfl (World.ownsRow.alloc ho.out _) ⟨w3.heap.size, 0, none⟩ 1 1 [.int .i64 (px + tx), .int .i64 (py + ty)] rfl rfl (two_new' _ _ _ _) (two_one' _ _) (by decide) ?c3 ?c4 ?c5 (w3.heap.size + 1) (by simp) ?_)
      case c3 => rw [hlen.out]; unfold maxLen; omega
      case c4 => rw [hlen.out]; omega
      case c5 => simp; omega
      intro g cap w4 hown hgrow hat hlt4
      obtain ⟨ho4, hv4, hb4⟩ := ho.out.grows hv.out p5 (by omega) hown hgrow hat
      have hs4 := Lib.hid ((hs.out.after (bel_new w3 (.cells #[.int .i64 (px + tx), .int .i64 (py + ty)] 27))).grown hgrow (fun e => hv.out e.symm))
      replace ho4 := Lib.hid ho4
      replace hv4 := Lib.hid hv4
      replace hbv := Lib.hid (hbv.out.trans (hb4.mono (by omega)))
      replace hbw := Lib.hid (hbw.out.trans (hb4.mono (by omega)))
      clear hown hgrow hat ho hs hb4 p1 p2 p3 p4 p5
      go_wp2_with fail
      go_roundw
      case rel => exact ⟨k + 1, by go_num, by omega, by rw [hd1.out], by rw [M.pts_succ, hx1.out, hy1.out]; exact ho4, hv4, by rw [hx1.out, hy1.out]; exact hs4, hbv, hbw⟩
      case measure => simp [intOf]; omega
    · obtain rfl : k = m := by omega
      have hfin := Lib.hid (ho.out.base2 (B' := w.heap.size) (by omega))
      clear ho
      obtain ⟨x0, x1, x2, x3, x4, x5⟩ := k0.below hbv.out (Nat.lt_succ_self _)
      go_wp2_with fail
      go_ret
      exact pts_ret rfl hfin.out hbw.out
end Go.Proofs.YtmainffjekjlnaaDoor
