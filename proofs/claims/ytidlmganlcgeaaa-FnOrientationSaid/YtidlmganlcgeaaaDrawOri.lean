/- Contract of the draw of three points. -/
import Derived.Test.YtidlmganlcgeaaaDrawSq
import Derived.Deep.RegionHeld3
namespace Go.Proofs.Ytidlmganlcgeaaa
open Go.ChangeShapes Go.WideShapes Go.ChangeAt Go.RowKit
set_option linter.unusedVariables false
def ThreePoints (e : Ending) : Prop := ∃ a b c d x y : Int, e = .returned (.tuple #[.agg #[.int .i64 a, .int .i64 b], .agg #[.int .i64 c, .int .i64 d], .agg #[.int .i64 x, .int .i64 y]])
set_option maxHeartbeats 1500000 in
theorem draw_ori (a : Option Addr) (len cap : Nat) (zs : List Int) (w : World) (h : IsRow .u8 w a len cap zs) :
    Calls Try.prog 25 #[.slice a len cap] w (Got w ThreePoints) := by
  have S2 := ((Slot.new w 0 0 25).alloc (.cells #[.int .i64 0, .int .i64 0] 25)).alloc (.cells #[.int .i64 0, .int .i64 0] 25)
  have S3 := (Slot.new (w.alloc (.cells #[.int .i64 0, .int .i64 0] 25)) 0 0 25).alloc (.cells #[.int .i64 0, .int .i64 0] 25)
  rw [World.size_alloc] at S3
  have S4 := Slot.new ((w.alloc (.cells #[.int .i64 0, .int .i64 0] 25)).alloc (.cells #[.int .i64 0, .int .i64 0] 25)) 0 0 25
  rw [World.size_alloc, World.size_alloc] at S4
  have q := Lib.hid (bel_alloc (bel_alloc (bel_alloc (Below.refl _ w) (.cells #[.int .i64 0, .int .i64 0] 25)) (.cells #[.int .i64 0, .int .i64 0] 25)) (.cells #[.int .i64 0, .int .i64 0] 25))
  have h1 := ((h.alloc (.cells #[.int .i64 0, .int .i64 0] 25)).alloc (.cells #[.int .i64 0, .int .i64 0] 25)).alloc (.cells #[.int .i64 0, .int .i64 0] 25)
  go_enter Try.func25, Try.ntmps25
  go_wp2_with fail
  refine (open_any a len cap zs _ h1).mono ?_
  rintro e w1 ⟨R, rfl, hR, r1, b⟩
  have hR2 : w.heap.size + 1 + 1 < R := by simp at hR; omega
  have S2 := S2.old b
  have S3 := S3.old b
  have S4 := S4.old b
  have q := Lib.hid (bel_trans q.out (Lib.hid b))
  clear b h1
  go_wp2_with fail
  refine (pt_any R 0 _ _ r1 (by omega) (by omega) (by omega)).mono ?_
  rintro e w2 ⟨⟨x1, y1, rfl, ⟨x1l, x1h⟩, ⟨y1l, y1h⟩⟩, r2, b⟩
  have S2 := S2.beside b (by omega)
  have S3 := S3.beside b (by omega)
  have S4 := S4.beside b (by omega)
  have q := Lib.hid (got (by omega) q.out b)
  clear b r1
  have l2 := r2.lt
  have r2 : Rd w2 R 8 := r2
  have S6 := Slot.new w2 x1 y1 25
  have S2 := S2.alloc (.cells #[.int .i64 x1, .int .i64 y1] 25)
  have S3 := S3.alloc (.cells #[.int .i64 x1, .int .i64 y1] 25)
  have S4 := S4.alloc (.cells #[.int .i64 x1, .int .i64 y1] 25)
  have q := Lib.hid (bel_alloc q.out (.cells #[.int .i64 x1, .int .i64 y1] 25))
  have r2 := r2.alloc (.cells #[.int .i64 x1, .int .i64 y1] 25)
  go_wp2_with fail
  refine (pt_any R 8 _ _ r2 (by omega) (by omega) (by omega)).mono ?_
  rintro e w3 ⟨⟨x2, y2, rfl, ⟨x2l, x2h⟩, ⟨y2l, y2h⟩⟩, r3, b⟩
  have S2 := S2.beside b (by omega)
  have S3 := S3.beside b (by omega)
  have S4 := S4.beside b (by omega)
  have S6 := S6.beside b (by omega)
  have q := Lib.hid (got (by omega) q.out b)
  clear b r2
  have l3 := r3.lt
  have hk2 : w2.heap.size < w3.heap.size := S6.2.2.2.2
  have r3 : Rd w3 R 16 := r3
  have S7 := Slot.new w3 x2 y2 25
  have S2 := S2.alloc (.cells #[.int .i64 x2, .int .i64 y2] 25)
  have S3 := S3.alloc (.cells #[.int .i64 x2, .int .i64 y2] 25)
  have S4 := S4.alloc (.cells #[.int .i64 x2, .int .i64 y2] 25)
  have S6 := S6.alloc (.cells #[.int .i64 x2, .int .i64 y2] 25)
  have q := Lib.hid (bel_alloc q.out (.cells #[.int .i64 x2, .int .i64 y2] 25))
  have r3 := r3.alloc (.cells #[.int .i64 x2, .int .i64 y2] 25)
  go_wp2_with fail
  refine (pt_any R 16 _ _ r3 (by omega) (by omega) (by omega)).mono ?_
  rintro e w4 ⟨⟨x3, y3, rfl, ⟨x3l, x3h⟩, ⟨y3l, y3h⟩⟩, r4, b⟩
  have S2 := S2.beside b (by omega)
  have S3 := S3.beside b (by omega)
  have S4 := S4.beside b (by omega)
  have S6 := S6.beside b (by omega)
  have S7 := S7.beside b (by omega)
  have q := Lib.hid (got (by omega) q.out b)
  clear b r3
  have l4 := r4.lt
  have hk3 : w3.heap.size < w4.heap.size := S7.2.2.2.2
  have r4 : Rd w4 R 24 := r4
  have S8 := Slot.new w4 x3 y3 25
  have S2 := S2.alloc (.cells #[.int .i64 x3, .int .i64 y3] 25)
  have S3 := S3.alloc (.cells #[.int .i64 x3, .int .i64 y3] 25)
  have S4 := S4.alloc (.cells #[.int .i64 x3, .int .i64 y3] 25)
  have S6 := S6.alloc (.cells #[.int .i64 x3, .int .i64 y3] 25)
  have S7 := S7.alloc (.cells #[.int .i64 x3, .int .i64 y3] 25)
  have q := Lib.hid (bel_alloc q.out (.cells #[.int .i64 x3, .int .i64 y3] 25))
  have r4 := r4.alloc (.cells #[.int .i64 x3, .int .i64 y3] 25)
  go_wp2_with fail
  refine (pick_any R 24 _ _ r4 (by omega) (by omega) (by omega)).mono ?_
  rintro e w5 ⟨v, vl, vh, rfl, r5, b⟩
  have S2 := S2.beside b (by omega)
  have S3 := S3.beside b (by omega)
  have S4 := S4.beside b (by omega)
  have S6 := S6.beside b (by omega)
  have S7 := S7.beside b (by omega)
  have S8 := S8.beside b (by omega)
  have q := Lib.hid (got (by omega) q.out b)
  clear b r4
  have g2 : w.heap.size < w5.heap.size := S2.2.2.2.2
  have k1 : w.heap.size + 1 + 1 < w2.heap.size := by omega
  have k2 : w2.heap.size < w3.heap.size := hk2
  have k3 : w3.heap.size < w4.heap.size := hk3
  cases hz : (v == 0)
  · have hz2 := Lib.hid hz
    obtain ⟨d1, d2, d3, d4, d5⟩ := S2
    obtain ⟨d6, d7, d8, d9, d10⟩ := S3
    obtain ⟨d11, d12, d13, d14, d15⟩ := S4
    obtain ⟨f1, f2, f3, f4, f5⟩ := S6
    obtain ⟨f6, f7, f8, f9, f10⟩ := S7
    obtain ⟨f11, f12, f13, f14, f15⟩ := S8
    go_wp2_with fail
    have n00 : w.heap.size ≠ w2.heap.size := by omega
    have m00 : w2.heap.size ≠ w.heap.size := by omega
    have n01 : w.heap.size ≠ w3.heap.size := by omega
    have m01 : w3.heap.size ≠ w.heap.size := by omega
    have n02 : w.heap.size ≠ w4.heap.size := by omega
    have m02 : w4.heap.size ≠ w.heap.size := by omega
    have n10 : w.heap.size + 1 ≠ w2.heap.size := by omega
    have m10 : w2.heap.size ≠ w.heap.size + 1 := by omega
    have n11 : w.heap.size + 1 ≠ w3.heap.size := by omega
    have m11 : w3.heap.size ≠ w.heap.size + 1 := by omega
    have n12 : w.heap.size + 1 ≠ w4.heap.size := by omega
    have m12 : w4.heap.size ≠ w.heap.size + 1 := by omega
    have n20 : w.heap.size + 1 + 1 ≠ w2.heap.size := by omega
    have m20 : w2.heap.size ≠ w.heap.size + 1 + 1 := by omega
    have n21 : w.heap.size + 1 + 1 ≠ w3.heap.size := by omega
    have m21 : w3.heap.size ≠ w.heap.size + 1 + 1 := by omega
    have n22 : w.heap.size + 1 + 1 ≠ w4.heap.size := by omega
    have m22 : w4.heap.size ≠ w.heap.size + 1 + 1 := by omega
    have s : (w5.drew.cell? ⟨w2.heap.size, 0, none⟩ = some (.int .i64 x1) ∧ w5.drew.cell? ⟨w2.heap.size, 1, none⟩ = some (.int .i64 y1)) ∧ (w5.drew.cell? ⟨w3.heap.size, 0, none⟩ = some (.int .i64 x2) ∧ w5.drew.cell? ⟨w3.heap.size, 1, none⟩ = some (.int .i64 y2)) ∧ (w5.drew.cell? ⟨w4.heap.size, 0, none⟩ = some (.int .i64 (x3)) ∧ w5.drew.cell? ⟨w4.heap.size, 1, none⟩ = some (.int .i64 (y3))) := ⟨⟨f1, f2⟩, ⟨f6, f7⟩, ⟨f11, f12⟩⟩
    have rs := Lib.hid (show w.heap.size < w2.heap.size by omega)
    clear x1l x1h y1l y1h x2l x2h y2l y2h x3l x3h y3l y3h hR2 l2 l3 l4 k1 k2 k3 hk2 hk3 g2 r5 vl vh hz hR f3 f4 f5 f8 f9 f10 f13 f14 f15 d5 d10 d15
    go_region_held3 (fun w' => (w'.cell? ⟨w2.heap.size, 0, none⟩ = some (.int .i64 x1) ∧ w'.cell? ⟨w2.heap.size, 1, none⟩ = some (.int .i64 y1)) ∧ (w'.cell? ⟨w3.heap.size, 0, none⟩ = some (.int .i64 x2) ∧ w'.cell? ⟨w3.heap.size, 1, none⟩ = some (.int .i64 y2)) ∧ (w'.cell? ⟨w4.heap.size, 0, none⟩ = some (.int .i64 (x3)) ∧ w'.cell? ⟨w4.heap.size, 1, none⟩ = some (.int .i64 (y3)))) (first | (with_reducible assumption) | go_keep) (fail)
    all_goals
      go_wp2_with fail
      refine bodyPost_ret (v := .tuple #[.agg #[.int .i64 x1, .int .i64 y1], .agg #[.int .i64 x2, .int .i64 y2], .agg #[.int .i64 (x3), .int .i64 (y3)]]) (by simp [results, Try.results25, go_sem, d1, d2, d6, d7, d11, d12]) rfl ⟨⟨_, _, _, _, _, _, rfl⟩, ?_⟩
      repeat (first | (with_reducible exact q.out) | (with_reducible refine bel_set ?_ ?_ _; rotate_left; omega) | (with_reducible refine Below.drew ?_))
  · have hz2 := Lib.hid hz
    obtain ⟨c1, c2, c3, c4, c5⟩ := S6
    obtain ⟨c6, c7, c8, c9, c10⟩ := S7
    obtain ⟨c11, c12, c13, c14, c15⟩ := S8
    go_wp2_with fail
    have S6 : Slot w5 w2.heap.size x1 y1 := ⟨c1, c2, c3, c4, c5⟩
    have S7 : Slot w5 w3.heap.size x2 y2 := ⟨c6, c7, c8, c9, c10⟩
    have S8 := Slot.put ⟨c11, c12, c13, c14, c15⟩ (2 * x2 - x1) (2 * y2 - y1)
    have S2 := (S2.set (o := 0) (.int .i64 (2 * x2 - x1)) (by omega : w4.heap.size ≠ w.heap.size)).set (o := 1) (.int .i64 (2 * y2 - y1)) (by omega : w4.heap.size ≠ w.heap.size)
    have S3 := (S3.set (o := 0) (.int .i64 (2 * x2 - x1)) (by omega : w4.heap.size ≠ w.heap.size + 1)).set (o := 1) (.int .i64 (2 * y2 - y1)) (by omega : w4.heap.size ≠ w.heap.size + 1)
    have S4 := (S4.set (o := 0) (.int .i64 (2 * x2 - x1)) (by omega : w4.heap.size ≠ w.heap.size + 1 + 1)).set (o := 1) (.int .i64 (2 * y2 - y1)) (by omega : w4.heap.size ≠ w.heap.size + 1 + 1)
    have S6 := (S6.set (o := 0) (.int .i64 (2 * x2 - x1)) (by omega : w4.heap.size ≠ w2.heap.size)).set (o := 1) (.int .i64 (2 * y2 - y1)) (by omega : w4.heap.size ≠ w2.heap.size)
    have S7 := (S7.set (o := 0) (.int .i64 (2 * x2 - x1)) (by omega : w4.heap.size ≠ w3.heap.size)).set (o := 1) (.int .i64 (2 * y2 - y1)) (by omega : w4.heap.size ≠ w3.heap.size)
    have q := Lib.hid (bel_set (o := 1) (bel_set (o := 0) q.out (by omega : w.heap.size ≤ w4.heap.size) (.int .i64 (2 * x2 - x1))) (by omega : w.heap.size ≤ w4.heap.size) (.int .i64 (2 * y2 - y1)))
    clear c1 c2 c3 c4 c6 c7 c8 c9 c11 c12 c13 c14
    generalize ((w5.setCell ⟨w4.heap.size, 0, none⟩ (.int .i64 (2 * x2 - x1))).setCell ⟨w4.heap.size, 1, none⟩ (.int .i64 (2 * y2 - y1))) = u at *
    obtain ⟨d1, d2, d3, d4, d5⟩ := S2
    obtain ⟨d6, d7, d8, d9, d10⟩ := S3
    obtain ⟨d11, d12, d13, d14, d15⟩ := S4
    obtain ⟨f1, f2, f3, f4, f5⟩ := S6
    obtain ⟨f6, f7, f8, f9, f10⟩ := S7
    obtain ⟨f11, f12, f13, f14, f15⟩ := S8
    have n00 : w.heap.size ≠ w2.heap.size := by omega
    have m00 : w2.heap.size ≠ w.heap.size := by omega
    have n01 : w.heap.size ≠ w3.heap.size := by omega
    have m01 : w3.heap.size ≠ w.heap.size := by omega
    have n02 : w.heap.size ≠ w4.heap.size := by omega
    have m02 : w4.heap.size ≠ w.heap.size := by omega
    have n10 : w.heap.size + 1 ≠ w2.heap.size := by omega
    have m10 : w2.heap.size ≠ w.heap.size + 1 := by omega
    have n11 : w.heap.size + 1 ≠ w3.heap.size := by omega
    have m11 : w3.heap.size ≠ w.heap.size + 1 := by omega
    have n12 : w.heap.size + 1 ≠ w4.heap.size := by omega
    have m12 : w4.heap.size ≠ w.heap.size + 1 := by omega
    have n20 : w.heap.size + 1 + 1 ≠ w2.heap.size := by omega
    have m20 : w2.heap.size ≠ w.heap.size + 1 + 1 := by omega
    have n21 : w.heap.size + 1 + 1 ≠ w3.heap.size := by omega
    have m21 : w3.heap.size ≠ w.heap.size + 1 + 1 := by omega
    have n22 : w.heap.size + 1 + 1 ≠ w4.heap.size := by omega
    have m22 : w4.heap.size ≠ w.heap.size + 1 + 1 := by omega
    have s : (u.drew.cell? ⟨w2.heap.size, 0, none⟩ = some (.int .i64 x1) ∧ u.drew.cell? ⟨w2.heap.size, 1, none⟩ = some (.int .i64 y1)) ∧ (u.drew.cell? ⟨w3.heap.size, 0, none⟩ = some (.int .i64 x2) ∧ u.drew.cell? ⟨w3.heap.size, 1, none⟩ = some (.int .i64 y2)) ∧ (u.drew.cell? ⟨w4.heap.size, 0, none⟩ = some (.int .i64 (2 * x2 - x1)) ∧ u.drew.cell? ⟨w4.heap.size, 1, none⟩ = some (.int .i64 (2 * y2 - y1))) := ⟨⟨f1, f2⟩, ⟨f6, f7⟩, ⟨f11, f12⟩⟩
    have rs := Lib.hid (show w.heap.size < w2.heap.size by omega)
    clear x1l x1h y1l y1h x2l x2h y2l y2h x3l x3h y3l y3h hR2 l2 l3 l4 k1 k2 k3 hk2 hk3 g2 r5 vl vh hz hR f3 f4 f5 f8 f9 f10 f13 f14 f15 d5 d10 d15
    go_region_held3 (fun w' => (w'.cell? ⟨w2.heap.size, 0, none⟩ = some (.int .i64 x1) ∧ w'.cell? ⟨w2.heap.size, 1, none⟩ = some (.int .i64 y1)) ∧ (w'.cell? ⟨w3.heap.size, 0, none⟩ = some (.int .i64 x2) ∧ w'.cell? ⟨w3.heap.size, 1, none⟩ = some (.int .i64 y2)) ∧ (w'.cell? ⟨w4.heap.size, 0, none⟩ = some (.int .i64 (2 * x2 - x1)) ∧ w'.cell? ⟨w4.heap.size, 1, none⟩ = some (.int .i64 (2 * y2 - y1)))) (first | (with_reducible assumption) | go_keep) (fail)
    all_goals
      go_wp2_with fail
      refine bodyPost_ret (v := .tuple #[.agg #[.int .i64 x1, .int .i64 y1], .agg #[.int .i64 x2, .int .i64 y2], .agg #[.int .i64 (2 * x2 - x1), .int .i64 (2 * y2 - y1)]]) (by simp [results, Try.results25, go_sem, d1, d2, d6, d7, d11, d12]) rfl ⟨⟨_, _, _, _, _, _, rfl⟩, ?_⟩
      repeat (first | (with_reducible exact q.out) | (with_reducible refine bel_set ?_ ?_ _; rotate_left; omega) | (with_reducible refine Below.drew ?_))
end Go.Proofs.Ytidlmganlcgeaaa
