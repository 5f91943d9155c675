/- Contracts of the point functions of both packages. -/
import Derived.Test.YtmainffjekjlnaaDoorRead
import Derived.Deep.RegionHeld3
import Derived.StillTailTactics
namespace Go.Proofs.YtmainffjekjlnaaDoor
open Go.ChangeShapes Go.WideShapes Go.ChangeAt Go.RowKit
set_option linter.unusedVariables false
namespace M
def pvB (x y : Int) : Bool := decide (-10000 ≤ x ∧ x ≤ 10000 ∧ -10000 ≤ y ∧ y ≤ 10000)
theorem pvB_true {x y : Int} : pvB x y = true ↔ (-10000 ≤ x ∧ x ≤ 10000 ∧ -10000 ≤ y ∧ y ≤ 10000) := by simp [pvB]
theorem pvB_false {x y : Int} : pvB x y = false ↔ (x < -10000 ∨ 10000 < x ∨ y < -10000 ∨ 10000 < y) := by simp [pvB]; omega
theorem pv_yes {x y : Int} (h1 : -10000 ≤ x) (h2 : x ≤ 10000) (h3 : -10000 ≤ y) (h4 : y ≤ 10000) : true = pvB x y := (pvB_true.2 ⟨h1, h2, h3, h4⟩).symm
theorem pv_dec {x y : Int} (h1 : -10000 ≤ x) (h2 : x ≤ 10000) (h3 : -10000 ≤ y) : decide (y ≤ 10000) = pvB x y := by simp [pvB, h1, h2, h3]
theorem pv_no {x y : Int} (h : x < -10000 ∨ 10000 < x ∨ y < -10000 ∨ 10000 < y) : false = pvB x y := (pvB_false.2 h).symm
end M
/-- cells and marks below B read as before -/
theorem rule {B : Nat} {w w' : World} (h : Below B w w') : (∀ k o, k < B → w'.cell? ⟨k, o, none⟩ = w.cell? ⟨k, o, none⟩) ∧ (∀ k o, k < B → w'.frozen? ⟨k, o, none⟩ = w.frozen? ⟨k, o, none⟩) ∧ w.heap.size ≤ w'.heap.size :=
  ⟨fun k o hk => h.cell (p := ⟨k, o, none⟩) hk, fun k o hk => h.frozen (p := ⟨k, o, none⟩) hk, h.size⟩
theorem impl_pv (x y : Int) (w : World) :
    Calls Tryd.prog 37 #[.agg #[.int .i64 x, .int .i64 y]] w fun e w' => e = .returned (.bool (M.pvB x y)) ∧ Below w.heap.size w w' := by
  by_cases h1 : x < -10000
  · go_enter Tryd.func37, Tryd.ntmps37
    go_wp2
    go_ret
    exact ⟨ret_bool (M.pv_no (by omega)), (Below.refl _ _).alloc (Nat.le_refl _) _⟩
  · by_cases h2 : 10000 < x
    · go_enter Tryd.func37, Tryd.ntmps37
      go_wp2
      go_ret
      exact ⟨ret_bool (M.pv_no (by omega)), (Below.refl _ _).alloc (Nat.le_refl _) _⟩
    · by_cases h3 : y < -10000
      · go_enter Tryd.func37, Tryd.ntmps37
        go_wp2
        go_ret
        exact ⟨ret_bool (M.pv_no (by omega)), (Below.refl _ _).alloc (Nat.le_refl _) _⟩
      · go_enter Tryd.func37, Tryd.ntmps37
        go_wp2
        go_ret
        exact ⟨ret_bool (M.pv_dec (by omega) (by omega) (by omega)), (Below.refl _ _).alloc (Nat.le_refl _) _⟩
theorem spec_pv (x y : Int) (w : World) :
    Calls Tryd.prog 42 #[.agg #[.int .i64 x, .int .i64 y]] w fun e w' => e = .returned (.bool (M.pvB x y)) ∧ Below w.heap.size w w' := by
  by_cases h1 : x < -10000
  · go_enter Tryd.func42, Tryd.ntmps42
    go_wp2
    go_ret
    exact ⟨ret_bool (M.pv_no (by omega)), (Below.refl _ _).alloc (Nat.le_refl _) _⟩
  · by_cases h2 : 10000 < x
    · go_enter Tryd.func42, Tryd.ntmps42
      go_wp2
      go_ret
      exact ⟨ret_bool (M.pv_no (by omega)), (Below.refl _ _).alloc (Nat.le_refl _) _⟩
    · by_cases h3 : y < -10000
      · go_enter Tryd.func42, Tryd.ntmps42
        go_wp2
        go_ret
        exact ⟨ret_bool (M.pv_no (by omega)), (Below.refl _ _).alloc (Nat.le_refl _) _⟩
      · go_enter Tryd.func42, Tryd.ntmps42
        go_wp2
        go_ret
        exact ⟨ret_bool (M.pv_dec (by omega) (by omega) (by omega)), (Below.refl _ _).alloc (Nat.le_refl _) _⟩
theorem to_point (x y : Int) (w : World) :
    Calls Tryd.prog 20 #[.agg #[.int .i64 x, .int .i64 y]] w fun e w' => e = .returned (.agg #[.int .i64 x, .int .i64 y]) ∧ Below w.heap.size w w' := by
  go_enter Tryd.func20, Tryd.ntmps20
  go_wp2
  refine bodyPost_ret (v := .agg #[.int .i64 x, .int .i64 y]) (by simp [results, Tryd.results20, go_sem]) rfl ⟨rfl, ?_⟩
  exact (((Below.refl _ _).alloc (Nat.le_refl _) _).alloc (by simp) _).alloc (by simp; omega) _
def M.allB (n : Nat) (xs ys : Nat → Int) : Bool := (List.range n).all fun i => M.pvB (xs i) (ys i)
theorem M.allB_stop {n k : Nat} {xs ys : Nat → Int} (hk : k < n) (h : M.pvB (xs k) (ys k) = false) : false = M.allB n xs ys := by
  symm; unfold M.allB; rw [List.all_eq_false]; exact ⟨k, by simpa using hk, by simp [h]⟩
theorem M.allB_true {n : Nat} {xs ys : Nat → Int} (h : ∀ i, i < n → M.pvB (xs i) (ys i) = true) : true = M.allB n xs ys := by
  symm; unfold M.allB; rw [List.all_eq_true]; intro i hi; exact h i (by simpa using hi)
def AllRel (n : Nat) (xs ys : Nat → Int) (k : Nat) : Prop := k ≤ n ∧ ∀ i, i < k → M.pvB (xs i) (ys i) = true
def AtPoints (w : World) (b n : Nat) (xs ys : Nat → Int) : Prop := ∀ i, i < n → w.cell? ⟨b, i * 2, none⟩ = some (.int .i64 (xs i)) ∧ w.cell? ⟨b, i * 2 + 1, none⟩ = some (.int .i64 (ys i))
theorem all_points (b n cap : Nat) (xs ys : Nat → Int) (w : World) (hn : n ≤ 1000) (hb : b < w.heap.size) (hc : AtPoints w b n xs ys) :
    Calls Tryd.prog 49 #[.slice (some ⟨b, 0, none⟩) n cap] w fun e w' => e = .returned (.bool (M.allB n xs ys)) ∧ Below w.heap.size w w' := by
  go_enter Tryd.func49, Tryd.ntmps49
  go_wp2
  go_loopw [7] (fun i wr => ∃ k : Nat, i = .int .i64 k ∧ AllRel n xs ys k ∧ Below w.heap.size w wr) (fun i _ => n - (intOf i).toNat)
  case atStart => exact ⟨0, rfl, ⟨Nat.zero_le _, fun i hi => absurd hi (Nat.not_lt_zero _)⟩, Below.refl _ _⟩
  case round =>
    obtain ⟨k, rfl, ⟨hk, hall⟩, hbel⟩ := hrel
    by_cases hlt : k < n
    · obtain ⟨cx, cy⟩ := hc k hlt
      have cx : wr.cell? ⟨b, k * 2, none⟩ = some (.int .i64 (xs k)) := by rw [hbel.cell (p := ⟨b, k * 2, none⟩) hb]; exact cx
      have cy : wr.cell? ⟨b, k * 2 + 1, none⟩ = some (.int .i64 (ys k)) := by rw [hbel.cell (p := ⟨b, k * 2 + 1, none⟩) hb]; exact cy
      have hall := Lib.hid hall
      clear hc
      cases hv : M.pvB (xs k) (ys k)
      · have hfin := Lib.hid (M.allB_stop hlt hv)
        go_wp2_with (go_at_call 37; refine (impl_pv _ _ _).mono ?_; rintro e w' ⟨rfl, hb1⟩)
        go_ret
        exact ⟨ret_bool hfin.out, (hbel.alloc hbel.size _).trans (hb1.mono (by have := hbel.size; simp; omega))⟩
      · have hv2 := Lib.hid hv
        go_wp2_with (go_at_call 37; refine (impl_pv _ _ _).mono ?_; rintro e w' ⟨rfl, hb1⟩)
        have hb2 := Lib.hid ((hbel.alloc hbel.size _).trans (hb1.mono (by have := hbel.size; simp; omega)))
        clear hb1
        go_roundw
        case rel => exact ⟨k + 1, by go_num, ⟨by omega, fun i hi => by (rcases Nat.lt_or_ge i k with e | e; exact hall.out i e; obtain rfl : i = k := (by omega); exact hv2.out)⟩, hb2.out⟩
        case measure => simp [intOf]; omega
    · have hkn : n ≤ k := by omega
      have hfin := Lib.hid (M.allB_true (n := n) (xs := xs) (ys := ys) (fun i hi => hall i (by omega)))
      clear hc hall
      go_wp2
      go_ret
      exact ⟨ret_bool hfin.out, hbel⟩
def M.sq (a b c d : Int) : Int := if M.pvB a b = true ∧ M.pvB c d = true then (a - c) * (a - c) + (b - d) * (b - d) else -1
theorem M.sq_yes {a b c d : Int} (h : M.pvB a b = true) (h2 : M.pvB c d = true) : M.sq a b c d = (a - c) * (a - c) + (b - d) * (b - d) := by unfold M.sq; rw [if_pos ⟨h, h2⟩]
theorem M.sq_no1 {a b c d : Int} (h : M.pvB a b = false) : M.sq a b c d = -1 := by unfold M.sq; rw [if_neg (by simp [h])]
theorem M.sq_no2 {a b c d : Int} (h : M.pvB c d = false) : M.sq a b c d = -1 := by unfold M.sq; rw [if_neg (by simp [h])]
/-- products of differences of coordinates stay small -/
theorem M.mul_bd {x y B C : Int} (h1 : -B ≤ x) (h2 : x ≤ B) (h3 : -C ≤ y) (h4 : y ≤ C) (hB : 0 ≤ B) : -(B * C) ≤ x * y ∧ x * y ≤ B * C := by
  have a1 : 0 ≤ (B - x) * (C - y) := Int.mul_nonneg (by omega) (by omega)
  have a2 : 0 ≤ (B + x) * (C + y) := Int.mul_nonneg (by omega) (by omega)
  have a3 : 0 ≤ (B - x) * (C + y) := Int.mul_nonneg (by omega) (by omega)
  have a4 : 0 ≤ (B + x) * (C - y) := Int.mul_nonneg (by omega) (by omega)
  simp only [Int.sub_mul, Int.mul_sub, Int.add_mul, Int.mul_add] at a1 a2 a3 a4
  omega
/-- a point's two cells in block k -/
def Box (w : World) (k : Nat) (x y : Int) : Prop := w.cell? ⟨k, 0, none⟩ = some (.int .i64 x) ∧ w.cell? ⟨k, 1, none⟩ = some (.int .i64 y) ∧ k < w.heap.size
theorem Box.below {w w' : World} {k B : Nat} {x y : Int} (h : Box w k x y) (hb : Below B w w') (hk : k < B) : Box w' k x y :=
  ⟨by rw [hb.cell (p := ⟨k, 0, none⟩) hk]; exact h.1, by rw [hb.cell (p := ⟨k, 1, none⟩) hk]; exact h.2.1, Nat.lt_of_lt_of_le h.2.2 hb.size⟩
theorem Box.alloc {w : World} {k : Nat} {x y : Int} (h : Box w k x y) (o : Obj) : Box (w.alloc o) k x y := h.below ((Below.refl _ _).alloc (Nat.le_refl _) o) h.2.2
theorem Box.new (w : World) (x y : Int) (t : TypeId) : Box (w.alloc (.cells #[.int .i64 x, .int .i64 y] t)) w.heap.size x y := by
  have hh : (w.alloc (.cells #[.int .i64 x, .int .i64 y] t)).heap[w.heap.size]? = some (.cells #[.int .i64 x, .int .i64 y] t) := by
    show (w.heap.push _)[w.heap.size]? = _
    rw [Array.getElem?_push, if_pos rfl]
  exact ⟨by unfold World.cell?; rw [hh]; rfl, by unfold World.cell?; rw [hh]; rfl, by simp⟩
theorem M.sq_bd {a b c d : Int} (h : M.pvB a b = true) (h2 : M.pvB c d = true) : ((-20000 ≤ a - c ∧ a - c ≤ 20000) ∧ (-20000 ≤ b - d ∧ b - d ≤ 20000)) ∧ (-400000000 ≤ (a - c) * (a - c) ∧ (a - c) * (a - c) ≤ 400000000) ∧ (-400000000 ≤ (b - d) * (b - d) ∧ (b - d) * (b - d) ≤ 400000000) := by
  rw [M.pvB_true] at h h2
  exact ⟨⟨⟨by omega, by omega⟩, ⟨by omega, by omega⟩⟩, M.mul_bd (B := 20000) (C := 20000) (by omega) (by omega) (by omega) (by omega) (by omega), M.mul_bd (B := 20000) (C := 20000) (by omega) (by omega) (by omega) (by omega) (by omega)⟩
theorem l2_square (a b c d : Int) (w : World) (h1 : M.pvB a b = true) (h2 : M.pvB c d = true) :
    Calls Tryd.prog 44 #[.agg #[.int .i64 a, .int .i64 b], .agg #[.int .i64 c, .int .i64 d]] w fun e w' => e = .returned (.int .i64 ((a - c) * (a - c) + (b - d) * (b - d))) ∧ Below w.heap.size w w' := by
  obtain ⟨⟨⟨g1, g2⟩, ⟨g3, g4⟩⟩, ⟨g5, g6⟩, ⟨g7, g8⟩⟩ := M.sq_bd h1 h2
  clear h1 h2
  go_enter Tryd.func44, Tryd.ntmps44
  go_wp2
  go_ret
  exact ⟨rfl, ((Below.refl _ _).alloc (Nat.le_refl _) _).alloc (by simp) _⟩
theorem impl_square (a b c d : Int) (w : World) (h1 : M.pvB a b = true) (h2 : M.pvB c d = true) :
    Calls Tryd.prog 38 #[.agg #[.int .i64 a, .int .i64 b], .agg #[.int .i64 c, .int .i64 d]] w fun e w' => e = .returned (.int .i64 ((a - c) * (a - c) + (b - d) * (b - d))) ∧ Below w.heap.size w w' := by
  obtain ⟨⟨⟨g1, g2⟩, ⟨g3, g4⟩⟩, ⟨g5, g6⟩, ⟨g7, g8⟩⟩ := M.sq_bd h1 h2
  clear h1 h2
  go_enter Tryd.func38, Tryd.ntmps38
  go_wp2
  go_ret
  exact ⟨rfl, ((Below.refl _ _).alloc (Nat.le_refl _) _).alloc (by simp) _⟩
def pxs (a c : Int) (i : Nat) : Int := if i = 0 then a else c
theorem M.allB2 (a b c d : Int) : M.allB 2 (pxs a c) (pxs b d) = (M.pvB a b && M.pvB c d) := by simp [M.allB, List.range, List.range.loop, pxs]
theorem at2 {w : World} (a b c d : Int) (t : TypeId) : AtPoints (w.alloc (.cells #[.int .i64 a, .int .i64 b, .int .i64 c, .int .i64 d] t)) w.heap.size 2 (pxs a c) (pxs b d) := by
  have hh : (w.alloc (.cells #[.int .i64 a, .int .i64 b, .int .i64 c, .int .i64 d] t)).heap[w.heap.size]? = some (.cells #[.int .i64 a, .int .i64 b, .int .i64 c, .int .i64 d] t) := by
    show (w.heap.push _)[w.heap.size]? = _
    rw [Array.getElem?_push, if_pos rfl]
  intro i hi
  have : i = 0 ∨ i = 1 := by omega
  rcases this with rfl | rfl
  · exact ⟨by unfold World.cell?; rw [hh]; rfl, by unfold World.cell?; rw [hh]; rfl⟩
  · exact ⟨by unfold World.cell?; rw [hh]; rfl, by unfold World.cell?; rw [hh]; rfl⟩
theorem impl_sq (a b c d : Int) (w : World) :
    Calls Tryd.prog 16 #[.agg #[.int .i64 a, .int .i64 b], .agg #[.int .i64 c, .int .i64 d]] w fun e w' => e = .returned (.int .i64 (M.sq a b c d)) ∧ Below w.heap.size w w' := by
  go_enter Tryd.func16, Tryd.ntmps16
  go_wp2_with fail
  refine (all_points _ 2 _ (pxs a c) (pxs b d) _ (by omega) (by simp) (by have := at2 (w := (w.alloc (.cells #[.int .i64 a, .int .i64 b] 27)).alloc (.cells #[.int .i64 c, .int .i64 d] 27)) a b c d 27; simpa using this)).mono ?_
  rintro e w1 ⟨rfl, b1⟩
  have B1 := (((Box.new w a b 27).alloc (.cells #[.int .i64 c, .int .i64 d] 27)).alloc (.cells #[.int .i64 a, .int .i64 b, .int .i64 c, .int .i64 d] 27)).below b1 (by simp; omega)
  have B2 := ((Box.new (w.alloc (.cells #[.int .i64 a, .int .i64 b] 27)) c d 27).alloc (.cells #[.int .i64 a, .int .i64 b, .int .i64 c, .int .i64 d] 27)).below b1 (by simp)
  rw [World.size_alloc] at B2
  have q1 := Lib.hid (((((Below.refl w.heap.size w).alloc (Nat.le_refl _) _).alloc (by simp) _).alloc (by simp; omega) _).trans (b1.mono (by simp; omega)))
  clear b1
  rw [M.allB2]
  cases h1 : M.pvB a b
  · have hfin := Lib.hid (M.sq_no1 (c := c) (d := d) h1)
    go_wp2_with fail
    go_ret
    exact ⟨ret_int hfin.out.symm, q1.out⟩
  · cases h2 : M.pvB c d
    · have hfin := Lib.hid (M.sq_no2 (a := a) (b := b) h2)
      go_wp2_with fail
      go_ret
      exact ⟨ret_int hfin.out.symm, q1.out⟩
    · have hfin := Lib.hid (M.sq_yes h1 h2)
      obtain ⟨c1, c2, c3⟩ := B1
      obtain ⟨c4, c5, c6⟩ := B2
      go_wp2_with fail
      refine (impl_square _ _ _ _ _ h1 h2).mono ?_
      rintro e w3 ⟨rfl, b3⟩
      go_wp2_with fail
      go_ret
      exact ⟨ret_int hfin.out.symm, q1.out.trans (b3.mono q1.out.size)⟩
/-- a quotient rounded down -/
theorem M.fl_lt (n d : Int) (hd : 0 < d) (h : n.tmod d < 0) : n.tdiv d - 1 = n / d := by
  rcases Int.lt_or_le n 0 with hn | hn
  · have e1 : n.tmod d = -((-n) % d) := by
      have := Int.neg_tmod (-n) d
      rw [Int.neg_neg] at this
      rw [this, Int.tmod_eq_emod_of_nonneg (by omega)]
    have e2 : n.tdiv d = -((-n) / d) := by
      have := Int.neg_tdiv (-n) d
      rw [Int.neg_neg] at this
      rw [this, Int.tdiv_eq_ediv_of_nonneg (by omega)]
    rw [e1] at h
    rw [e2]
    have a1 := Int.mul_ediv_add_emod (-n) d
    have a2 : (-n) % d < d := Int.emod_lt_of_pos _ hd
    have a3 : d * (-((-n) / d) - 1) = d * (-((-n) / d)) - d := by rw [Int.mul_sub, Int.mul_one]
    rw [Int.mul_neg] at a3
    symm
    rw [Int.ediv_eq_iff_of_pos hd]
    rw [Int.mul_comm, a3]
    constructor <;> omega
  · rw [Int.tmod_eq_emod_of_nonneg hn] at h
    have := Int.emod_nonneg n (show d ≠ 0 by omega)
    omega
theorem M.fl_ge (n d : Int) (hd : 0 < d) (h : 0 ≤ n.tmod d) : n.tdiv d = n / d := by
  rcases Int.lt_or_le n 0 with hn | hn
  · have e1 : n.tmod d = -((-n) % d) := by
      have := Int.neg_tmod (-n) d
      rw [Int.neg_neg] at this
      rw [this, Int.tmod_eq_emod_of_nonneg (by omega)]
    have e2 : n.tdiv d = -((-n) / d) := by
      have := Int.neg_tdiv (-n) d
      rw [Int.neg_neg] at this
      rw [this, Int.tdiv_eq_ediv_of_nonneg (by omega)]
    rw [e1] at h
    rw [e2]
    have a1 := Int.mul_ediv_add_emod (-n) d
    have a2 : 0 ≤ (-n) % d := Int.emod_nonneg _ (by omega)
    have a3 : (-n) % d = 0 := by omega
    symm
    rw [Int.ediv_eq_iff_of_pos hd]
    rw [Int.mul_comm, Int.mul_neg]
    constructor <;> omega
  · exact Int.tdiv_eq_ediv_of_nonneg hn
theorem M.tdiv_bd {n d B : Int} (hd : 0 < d) (h1 : -B ≤ n) (h2 : n ≤ B) : -B ≤ n.tdiv d ∧ n.tdiv d ≤ B := by
  rcases Int.lt_or_le n 0 with hn | hn
  · have e2 : n.tdiv d = -((-n) / d) := by
      have := Int.neg_tdiv (-n) d
      rw [Int.neg_neg] at this
      rw [this, Int.tdiv_eq_ediv_of_nonneg (by omega)]
    have := Int.ediv_le_self d (show 0 ≤ -n by omega)
    have := Int.ediv_nonneg (show 0 ≤ -n by omega) (show 0 ≤ d by omega)
    omega
  · have := Int.ediv_le_self d hn
    have := Int.ediv_nonneg hn (show 0 ≤ d by omega)
    rw [Int.tdiv_eq_ediv_of_nonneg hn]
    omega
theorem M.tmod_bd {n d : Int} (hd : 0 < d) : -d < n.tmod d ∧ n.tmod d < d := by
  rcases Int.lt_or_le n 0 with hn | hn
  · have e1 : n.tmod d = -((-n) % d) := by
      have := Int.neg_tmod (-n) d
      rw [Int.neg_neg] at this
      rw [this, Int.tmod_eq_emod_of_nonneg (by omega)]
    have := Int.emod_nonneg (-n) (show d ≠ 0 by omega)
    have := Int.emod_lt_of_pos (-n) hd
    omega
  · have := Int.emod_nonneg n (show d ≠ 0 by omega)
    have := Int.emod_lt_of_pos n hd
    rw [Int.tmod_eq_emod_of_nonneg hn]
    omega
theorem l1_floor (n d : Int) (w : World) (hd : 1 ≤ d) (hd2 : d ≤ 1000000) (h1 : -1000000000000 ≤ n) (h2 : n ≤ 1000000000000) :
    Calls Tryd.prog 75 #[.int .i64 n, .int .i64 d] w fun e w' => e = .returned (.int .i64 (n / d)) ∧ w = w' := by
  obtain ⟨g1, g2⟩ := M.tdiv_bd (n := n) (d := d) (by omega) h1 h2
  obtain ⟨g3, g4⟩ := M.tmod_bd (n := n) (d := d) (by omega)
  have hd0 : (d == 0) = false := by simp; omega
  go_enter Tryd.func75, Tryd.ntmps75
  go_wp2
  · go_ret
    exact ⟨ret_int (M.fl_lt n d (by omega) (by assumption)), rfl⟩
  · go_ret
    exact ⟨ret_int (M.fl_ge n d (by omega) (by assumption)), rfl⟩
theorem impl_floor (n d : Int) (w : World) (hd : 1 ≤ d) (hd2 : d ≤ 1000000) (h1 : -1000000000000 ≤ n) (h2 : n ≤ 1000000000000) :
    Calls Tryd.prog 81 #[.int .i64 n, .int .i64 d] w fun e w' => e = .returned (.int .i64 (n / d)) ∧ w = w' := by
  obtain ⟨g1, g2⟩ := M.tdiv_bd (n := n) (d := d) (by omega) h1 h2
  obtain ⟨g3, g4⟩ := M.tmod_bd (n := n) (d := d) (by omega)
  have hd0 : (d == 0) = false := by simp; omega
  go_enter Tryd.func81, Tryd.ntmps81
  go_wp2
  · go_ret
    exact ⟨ret_int (M.fl_lt n d (by omega) (by assumption)), rfl⟩
  · go_ret
    exact ⟨ret_int (M.fl_ge n d (by omega) (by assumption)), rfl⟩
/-- a point's two cells that may be written -/
def Slot (w : World) (k : Nat) (x y : Int) : Prop := w.cell? ⟨k, 0, none⟩ = some (.int .i64 x) ∧ w.cell? ⟨k, 1, none⟩ = some (.int .i64 y) ∧ w.frozen? ⟨k, 0, none⟩ = false ∧ w.frozen? ⟨k, 1, none⟩ = false ∧ k < w.heap.size
theorem Slot.below {w w' : World} {k B : Nat} {x y : Int} (h : Slot w k x y) (hb : Below B w w') (hk : k < B) : Slot w' k x y :=
  ⟨by rw [hb.cell (p := ⟨k, 0, none⟩) hk]; exact h.1, by rw [hb.cell (p := ⟨k, 1, none⟩) hk]; exact h.2.1, by rw [hb.frozen (p := ⟨k, 0, none⟩) hk]; exact h.2.2.1, by rw [hb.frozen (p := ⟨k, 1, none⟩) hk]; exact h.2.2.2.1, Nat.lt_of_lt_of_le h.2.2.2.2 hb.size⟩
theorem Slot.alloc {w : World} {k : Nat} {x y : Int} (h : Slot w k x y) (o : Obj) : Slot (w.alloc o) k x y := h.below ((Below.refl _ _).alloc (Nat.le_refl _) o) h.2.2.2.2
theorem Slot.box {w : World} {k : Nat} {x y : Int} (h : Slot w k x y) : Box w k x y := ⟨h.1, h.2.1, h.2.2.2.2⟩
theorem Slot.new (w : World) (x y : Int) (t : TypeId) : Slot (w.alloc (.cells #[.int .i64 x, .int .i64 y] t)) w.heap.size x y := by
  have hh : (w.alloc (.cells #[.int .i64 x, .int .i64 y] t)).heap[w.heap.size]? = some (.cells #[.int .i64 x, .int .i64 y] t) := by
    show (w.heap.push _)[w.heap.size]? = _
    rw [Array.getElem?_push, if_pos rfl]
  exact ⟨by unfold World.cell?; rw [hh]; rfl, by unfold World.cell?; rw [hh]; rfl, by unfold World.frozen?; rw [hh]; rfl, by unfold World.frozen?; rw [hh]; rfl, by simp⟩
theorem still_of {P : Program} {f : FuncId} {args : Array Value} {w : World} {v : Value} (h : Calls P f args w fun e w' => e = .returned v ∧ w = w') : Calls P f args w fun e w' => e = .returned v ∧ w' = w := h.mono fun _ _ ⟨a, b⟩ => ⟨a, b.symm⟩
/-- the cells of two points are kept -/
theorem keep4 {W wn : World} {k1 k2 : Nat} {x0 y0 x1 y1 : Int} (b : Below W.heap.size W wn)
    (h : (W.cell? ⟨k1, 0, none⟩ = some (.int .i64 x0) ∧ W.cell? ⟨k1, 1, none⟩ = some (.int .i64 y0)) ∧ (W.cell? ⟨k2, 0, none⟩ = some (.int .i64 x1) ∧ W.cell? ⟨k2, 1, none⟩ = some (.int .i64 y1))) :
    (wn.cell? ⟨k1, 0, none⟩ = some (.int .i64 x0) ∧ wn.cell? ⟨k1, 1, none⟩ = some (.int .i64 y0)) ∧ (wn.cell? ⟨k2, 0, none⟩ = some (.int .i64 x1) ∧ wn.cell? ⟨k2, 1, none⟩ = some (.int .i64 y1)) := by
  obtain ⟨⟨h1, h2⟩, ⟨h3, h4⟩⟩ := h
  have l1 := World.block_lt_of_cell? _ _ h1
  have l2 := World.block_lt_of_cell? _ _ h3
  exact ⟨⟨by rw [b.cell (p := ⟨k1, 0, none⟩) l1]; exact h1, by rw [b.cell (p := ⟨k1, 1, none⟩) l1]; exact h2⟩, ⟨by rw [b.cell (p := ⟨k2, 0, none⟩) l2]; exact h3, by rw [b.cell (p := ⟨k2, 1, none⟩) l2]; exact h4⟩⟩
/-- the cells of three points are kept -/
theorem keep6 {W wn : World} {k1 k2 k3 : Nat} {x0 y0 x1 y1 x2 y2 : Int} (b : Below W.heap.size W wn)
    (h : (W.cell? ⟨k1, 0, none⟩ = some (.int .i64 x0) ∧ W.cell? ⟨k1, 1, none⟩ = some (.int .i64 y0)) ∧ (W.cell? ⟨k2, 0, none⟩ = some (.int .i64 x1) ∧ W.cell? ⟨k2, 1, none⟩ = some (.int .i64 y1)) ∧ (W.cell? ⟨k3, 0, none⟩ = some (.int .i64 x2) ∧ W.cell? ⟨k3, 1, none⟩ = some (.int .i64 y2))) :
    (wn.cell? ⟨k1, 0, none⟩ = some (.int .i64 x0) ∧ wn.cell? ⟨k1, 1, none⟩ = some (.int .i64 y0)) ∧ (wn.cell? ⟨k2, 0, none⟩ = some (.int .i64 x1) ∧ wn.cell? ⟨k2, 1, none⟩ = some (.int .i64 y1)) ∧ (wn.cell? ⟨k3, 0, none⟩ = some (.int .i64 x2) ∧ wn.cell? ⟨k3, 1, none⟩ = some (.int .i64 y2)) := by
  obtain ⟨⟨h1, h2⟩, ⟨h3, h4⟩, ⟨h5, h6⟩⟩ := h
  have l1 := World.block_lt_of_cell? _ _ h1
  have l2 := World.block_lt_of_cell? _ _ h3
  have l3 := World.block_lt_of_cell? _ _ h5
  exact ⟨⟨by rw [b.cell (p := ⟨k1, 0, none⟩) l1]; exact h1, by rw [b.cell (p := ⟨k1, 1, none⟩) l1]; exact h2⟩, ⟨by rw [b.cell (p := ⟨k2, 0, none⟩) l2]; exact h3, by rw [b.cell (p := ⟨k2, 1, none⟩) l2]; exact h4⟩, ⟨by rw [b.cell (p := ⟨k3, 0, none⟩) l3]; exact h5, by rw [b.cell (p := ⟨k3, 1, none⟩) l3]; exact h6⟩⟩
theorem bel_trans {w a b : World} (h : Below w.heap.size w a) (k : Hid (Below a.heap.size a b)) : Below w.heap.size w b := h.trans (k.out.mono h.size)
theorem bel_alloc {w a : World} (h : Below w.heap.size w a) (o : Obj) : Below w.heap.size w (a.alloc o) := h.alloc h.size o
theorem bel_set {w a : World} {g o : Nat} (h : Below w.heap.size w a) (hg : w.heap.size ≤ g) (u : Value) : Below w.heap.size w (a.setCell ⟨g, o, none⟩ u) := h.setCell hg u
end Go.Proofs.YtmainffjekjlnaaDoor
