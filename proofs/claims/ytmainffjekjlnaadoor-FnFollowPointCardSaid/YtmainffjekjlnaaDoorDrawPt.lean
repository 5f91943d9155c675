/- Contracts of the draws of points. -/
import Derived.Test.YtmainffjekjlnaaDoorOdd
import Derived.Test.YtmainffjekjlnaaDoorPoint
namespace Go.Proofs.YtmainffjekjlnaaDoor
open Go.ChangeShapes Go.WideShapes Go.ChangeAt Go.RowKit
set_option linter.unusedVariables false
theorem Slot.beside {w w' : World} {k R : Nat} {x y : Int} (h : Slot w k x y) (hb : Beside R w w') (hk : k ≠ R) : Slot w' k x y :=
  ⟨by rw [hb.cell h.2.2.2.2 hk]; exact h.1, by rw [hb.cell h.2.2.2.2 hk]; exact h.2.1, by rw [hb.frozen h.2.2.2.2 hk]; exact h.2.2.1, by rw [hb.frozen h.2.2.2.2 hk]; exact h.2.2.2.1, Nat.lt_of_lt_of_le h.2.2.2.2 hb.size⟩
theorem Slot.set {w : World} {k j o : Nat} {x y : Int} (h : Slot w k x y) (u : Value) (hk : j ≠ k) : Slot (w.setCell ⟨j, o, none⟩ u) k x y := by
  have e : ∀ i, (w.setCell ⟨j, o, none⟩ u).cell? ⟨k, i, none⟩ = w.cell? ⟨k, i, none⟩ := fun i => World.cell?_setCell_other _ _ _ _ (by first | (simp; done) | (simp; omega))
  exact ⟨by rw [e]; exact h.1, by rw [e]; exact h.2.1, by simpa using h.2.2.1, by simpa using h.2.2.2.1, by simpa [World.setCell] using h.2.2.2.2⟩
/-- both cells written -/
theorem Slot.put {w : World} {k : Nat} {x y : Int} (h : Slot w k x y) (a b : Int) : Slot ((w.setCell ⟨k, 0, none⟩ (.int .i64 a)).setCell ⟨k, 1, none⟩ (.int .i64 b)) k a b := by
  have e1 : (w.setCell ⟨k, 0, none⟩ (.int .i64 a)).cell? ⟨k, 0, none⟩ = some (.int .i64 a) := World.cell?_setCell_same w ⟨k, 0, none⟩ _ h.1
  have e2 : (w.setCell ⟨k, 0, none⟩ (.int .i64 a)).cell? ⟨k, 1, none⟩ = some (.int .i64 y) := by rw [World.cell?_setCell_other _ _ _ _ (by simp)]; exact h.2.1
  refine ⟨by rw [World.cell?_setCell_other _ _ _ _ (by simp)]; exact e1, World.cell?_setCell_same _ ⟨k, 1, none⟩ _ e2, by simpa using h.2.2.1, by simpa using h.2.2.2.1, by simpa [World.setCell] using h.2.2.2.2⟩
/-- the first cell written -/
theorem Slot.put0 {w : World} {k : Nat} {x y : Int} (h : Slot w k x y) (a : Int) : Slot (w.setCell ⟨k, 0, none⟩ (.int .i64 a)) k a y :=
  ⟨World.cell?_setCell_same w ⟨k, 0, none⟩ _ h.1, by rw [World.cell?_setCell_other _ _ _ _ (by simp)]; exact h.2.1, by simpa using h.2.2.1, by simpa using h.2.2.2.1, by simpa [World.setCell] using h.2.2.2.2⟩
def APoint (e : Ending) : Prop := ∃ x y : Int, e = .returned (.agg #[.int .i64 x, .int .i64 y]) ∧ (-10001 ≤ x ∧ x ≤ 10001) ∧ (-10001 ≤ y ∧ y ≤ 10001)
set_option maxHeartbeats 1000000 in
theorem pt_any (R m : Nat) (n : Int) (w : World) (h : Rd w R m) (hm : m ≤ 900000) (hn : 1 ≤ n) (hn2 : n ≤ 1000000) :
    Calls Tryd.prog 62 #[.pointer (some ⟨R, 0, none⟩), .int .i64 n] w (Drew w R (m + 8) APoint) := by
  have hl := h.lt
  have hw : w.heap.size ≠ R := by omega
  have S4 := Slot.new w 0 0 27
  have rr := h.alloc (.cells #[.int .i64 0, .int .i64 0] 27)
  have B := (Beside.refl R w).alloc (.cells #[.int .i64 0, .int .i64 0] 27)
  go_enter Tryd.func62, Tryd.ntmps62
  go_wp2_with fail
  refine (pick_any R (m + 0) _ _ rr (by omega) (by omega) (by omega)).mono ?_
  rintro e w1 ⟨v1, v1l, v1h, rfl, rr, b⟩
  have S4 := S4.beside b (by omega)
  have B := B.trans b
  clear b
  go_wp2_with fail
  refine (pick_any R (m + 1) _ _ rr (by omega) (by omega) (by omega)).mono ?_
  rintro e w2 ⟨v2, v2l, v2h, rfl, rr, b⟩
  have S4 := S4.beside b (by omega)
  have B := B.trans b
  clear b
  have l2 := rr.lt
  have hlt2 : w.heap.size < w2.heap.size := S4.2.2.2.2
  have S5 := Slot.new w2 (v1 - 20) (v2 - 20) 27
  have S4 := S4.alloc (.cells #[.int .i64 (v1 - 20), .int .i64 (v2 - 20)] 27)
  have rr := rr.alloc (.cells #[.int .i64 (v1 - 20), .int .i64 (v2 - 20)] 27)
  have B := B.alloc (.cells #[.int .i64 (v1 - 20), .int .i64 (v2 - 20)] 27)
  go_wp2_with fail
  refine (pick_any R (m + 2) _ _ rr (by omega) (by omega) (by omega)).mono ?_
  rintro e w3 ⟨v3, v3l, v3h, rfl, rr, b⟩
  have S4 := S4.beside b (by omega)
  have S5 := S5.beside b (by omega)
  have B := B.trans b
  clear b
  have l3 : R < w3.heap.size := rr.lt
  have l5 : w.heap.size < w2.heap.size := hlt2
  cases hz : (v3 == 0)
  · have hz2 := Lib.hid hz
    go_wp2_with fail
    refine (odd_any R (m + 3) n _ rr (by omega) hn hn2).mono ?_
    rintro e wo ⟨⟨bo, rfl⟩, rr, b⟩
    have S4 := S4.beside b (by omega)
    have S5 := S5.beside b (by omega)
    have B := B.trans b
    clear b
    have lo := rr.lt
    cases bo
    · obtain ⟨a1, a2, a3, a4, a5⟩ := S4
      obtain ⟨a6, a7, a8, a9, a10⟩ := S5
      go_wp2_with fail
      refine bodyPost_ret (v := .agg #[.int .i64 (v1 - 20), .int .i64 (v2 - 20)]) (by simp [results, Tryd.results62, go_sem, a1, a2]) rfl ⟨⟨_, _, rfl, ⟨by omega, by omega⟩, ⟨by omega, by omega⟩⟩, ?_, ?_⟩
      · exact ((rr.mono (by omega)).setCell (by show R < w.heap.size; omega) _).setCell (by show R < w.heap.size; omega) _
      · exact (B.setCell (.inr (Nat.le_refl _)) _).setCell (.inr (Nat.le_refl _)) _
    · have rr := rr.alloc (.cells #[.int .i64 10001, .int .i64 (-10001), .int .i64 10000] 3)
      have S4 := S4.alloc (.cells #[.int .i64 10001, .int .i64 (-10001), .int .i64 10000] 3)
      have S5 := S5.alloc (.cells #[.int .i64 10001, .int .i64 (-10001), .int .i64 10000] 3)
      have B := B.alloc (.cells #[.int .i64 10001, .int .i64 (-10001), .int .i64 10000] 3)
      go_wp2_with fail
      refine (pick_any R _ _ _ rr (by omega) (by omega) (by omega)).mono ?_
      rintro e wp ⟨vp, vpl, vph, rfl, rr, b⟩
      obtain ⟨u, hu, cu⟩ := lit_cell b [10001, -10001, 10000] 3 (alloc1 wo _) (by omega) (fun x => -10001 ≤ x ∧ x ≤ 10001) (by decide) vp vpl vph
      obtain ⟨hu1, hu2⟩ := hu
      have S4 := S4.beside b (by omega)
      have S5 := S5.beside b (by omega)
      have B := B.trans b
      clear b
      obtain ⟨a1, a2, a3, a4, a5⟩ := S4
      obtain ⟨a6, a7, a8, a9, a10⟩ := S5
      have hne : w2.heap.size ≠ w.heap.size := by omega
      go_wp2_with fail
      refine bodyPost_ret (v := .agg #[.int .i64 u, .int .i64 (v2 - 20)]) (by simp [results, Tryd.results62, go_sem, a1, a2]) rfl ⟨⟨_, _, rfl, ⟨by omega, by omega⟩, ⟨by omega, by omega⟩⟩, ?_, ?_⟩
      · exact (((rr.mono (by omega)).setCell (by show R < w2.heap.size; omega) _).setCell (by show R < w.heap.size; omega) _).setCell (by show R < w.heap.size; omega) _
      · exact ((B.setCell (.inr (by show w.heap.size ≤ w2.heap.size; omega)) _).setCell (.inr (Nat.le_refl _)) _).setCell (.inr (Nat.le_refl _)) _
  · go_wp2_with fail
    refine (pick_any R (m + 3) _ _ rr (by omega) (by omega) (by omega)).mono ?_
    rintro e w4 ⟨v4, v4l, v4h, rfl, rr, b⟩
    have S4 := S4.beside b (by omega)
    have S5 := S5.beside b (by omega)
    have B := B.trans b
    clear b
    go_wp2_with fail
    refine (pick_any R (m + 4) _ _ rr (by omega) (by omega) (by omega)).mono ?_
    rintro e w5 ⟨v5, v5l, v5h, rfl, rr, b⟩
    have S4 := S4.beside b (by omega)
    have S5 := S5.beside b (by omega)
    have B := B.trans b
    clear b
    obtain ⟨z6, z7, z8, z9, z10⟩ := S5
    have S5 := Slot.put ⟨z6, z7, z8, z9, z10⟩ (v4 * 4 - 500) (v5 * 4 - 500)
    have S4 := (S4.set (o := 0) (.int .i64 (v4 * 4 - 500)) (by omega : w2.heap.size ≠ w.heap.size)).set (o := 1) (.int .i64 (v5 * 4 - 500)) (by omega : w2.heap.size ≠ w.heap.size)
    have rr := (rr.setCell (p := ⟨w2.heap.size, 0, none⟩) (by show R < w2.heap.size; omega) (.int .i64 (v4 * 4 - 500))).setCell (p := ⟨w2.heap.size, 1, none⟩) (by show R < w2.heap.size; omega) (.int .i64 (v5 * 4 - 500))
    have B := (B.setCell (p := ⟨w2.heap.size, 0, none⟩) (.inr (by show w.heap.size ≤ w2.heap.size; omega)) (.int .i64 (v4 * 4 - 500))).setCell (p := ⟨w2.heap.size, 1, none⟩) (.inr (by show w.heap.size ≤ w2.heap.size; omega)) (.int .i64 (v5 * 4 - 500))
    go_wp2_with fail
    refine (odd_any R (m + 5) n _ rr (by omega) hn hn2).mono ?_
    rintro e wo ⟨⟨bo, rfl⟩, rr, b⟩
    have S4 := S4.beside b (by omega)
    have S5 := S5.beside b (by omega)
    have B := B.trans b
    clear b
    have lo := rr.lt
    cases bo
    · obtain ⟨a1, a2, a3, a4, a5⟩ := S4
      obtain ⟨a6, a7, a8, a9, a10⟩ := S5
      go_wp2_with fail
      refine bodyPost_ret (v := .agg #[.int .i64 (v4 * 4 - 500), .int .i64 (v5 * 4 - 500)]) (by simp [results, Tryd.results62, go_sem, a1, a2]) rfl ⟨⟨_, _, rfl, ⟨by omega, by omega⟩, ⟨by omega, by omega⟩⟩, ?_, ?_⟩
      · exact ((rr.mono (by omega)).setCell (by show R < w.heap.size; omega) _).setCell (by show R < w.heap.size; omega) _
      · exact (B.setCell (.inr (Nat.le_refl _)) _).setCell (.inr (Nat.le_refl _)) _
    · have rr := rr.alloc (.cells #[.int .i64 10001, .int .i64 (-10001), .int .i64 10000] 3)
      have S4 := S4.alloc (.cells #[.int .i64 10001, .int .i64 (-10001), .int .i64 10000] 3)
      have S5 := S5.alloc (.cells #[.int .i64 10001, .int .i64 (-10001), .int .i64 10000] 3)
      have B := B.alloc (.cells #[.int .i64 10001, .int .i64 (-10001), .int .i64 10000] 3)
      go_wp2_with fail
      refine (pick_any R _ _ _ rr (by omega) (by omega) (by omega)).mono ?_
      rintro e wp ⟨vp, vpl, vph, rfl, rr, b⟩
      obtain ⟨u, hu, cu⟩ := lit_cell b [10001, -10001, 10000] 3 (alloc1 wo _) (by omega) (fun x => -10001 ≤ x ∧ x ≤ 10001) (by decide) vp vpl vph
      obtain ⟨hu1, hu2⟩ := hu
      have S4 := S4.beside b (by omega)
      have S5 := S5.beside b (by omega)
      have B := B.trans b
      clear b
      obtain ⟨a1, a2, a3, a4, a5⟩ := S4
      obtain ⟨a6, a7, a8, a9, a10⟩ := S5
      have hne : w2.heap.size ≠ w.heap.size := by omega
      go_wp2_with fail
      refine bodyPost_ret (v := .agg #[.int .i64 u, .int .i64 (v5 * 4 - 500)]) (by simp [results, Tryd.results62, go_sem, a1, a2]) rfl ⟨⟨_, _, rfl, ⟨by omega, by omega⟩, ⟨by omega, by omega⟩⟩, ?_, ?_⟩
      · exact (((rr.mono (by omega)).setCell (by show R < w2.heap.size; omega) _).setCell (by show R < w.heap.size; omega) _).setCell (by show R < w.heap.size; omega) _
      · exact ((B.setCell (.inr (by show w.heap.size ≤ w2.heap.size; omega)) _).setCell (.inr (Nat.le_refl _)) _).setCell (.inr (Nat.le_refl _)) _
end Go.Proofs.YtmainffjekjlnaaDoor
