/- Contracts of the draws of two points. -/
import Derived.Test.YtidlmganlcgeaaaDrawPv
import Derived.Deep.RegionHeld3
namespace Go.Proofs.Ytidlmganlcgeaaa
open Go.ChangeShapes Go.WideShapes Go.ChangeAt Go.RowKit
set_option linter.unusedVariables false
def TwoPoints (e : Ending) : Prop := ∃ x y z u : Int, e = .returned (.tuple #[.agg #[.int .i64 x, .int .i64 y], .agg #[.int .i64 z, .int .i64 u]]) ∧ ((-10001 ≤ x ∧ x ≤ 10001) ∧ (-10001 ≤ y ∧ y ≤ 10001)) ∧ ((-10001 ≤ z ∧ z ≤ 10001) ∧ (-10001 ≤ u ∧ u ≤ 10001))
set_option maxHeartbeats 1000000 in
theorem draw_sq (a : Option Addr) (len cap : Nat) (zs : List Int) (w : World) (h : IsRow .u8 w a len cap zs) :
    Calls Try.prog 22 #[.slice a len cap] w (Got w TwoPoints) := by
  have S2 := (Slot.new w 0 0 25).alloc (.cells #[.int .i64 0, .int .i64 0] 25)
  have S3 := Slot.new (w.alloc (.cells #[.int .i64 0, .int .i64 0] 25)) 0 0 25
  rw [World.size_alloc] at S3
  have q := Lib.hid (((Below.refl w.heap.size w).alloc (Nat.le_refl _) (.cells #[.int .i64 0, .int .i64 0] 25)).alloc (by simp) (.cells #[.int .i64 0, .int .i64 0] 25))
  have h1 := (h.alloc (.cells #[.int .i64 0, .int .i64 0] 25)).alloc (.cells #[.int .i64 0, .int .i64 0] 25)
  go_enter Try.func22, Try.ntmps22
  go_wp2_with fail
  refine (open_any a len cap zs _ h1).mono ?_
  rintro e w1 ⟨R, rfl, hR, r1, b⟩
  have hR2 : w.heap.size + 1 < R := by simp at hR; omega
  have S2 := S2.old b
  have S3 := S3.old b
  have q := Lib.hid (bel_trans q.out (Lib.hid b))
  clear b h1
  go_wp2_with fail
  refine (pt_any R _ _ _ r1 (by omega) (by omega) (by omega)).mono ?_
  rintro e w2 ⟨⟨x, y, rfl, hx, hy⟩, r2, b⟩
  have S2 := S2.beside b (by omega)
  have S3 := S3.beside b (by omega)
  have q := Lib.hid (got (by omega) q.out b)
  clear b
  have l2 := r2.lt
  have r2 : Rd w2 R 8 := r2
  have S5 := Slot.new w2 x y 25
  have S2 := S2.alloc (.cells #[.int .i64 x, .int .i64 y] 25)
  have S3 := S3.alloc (.cells #[.int .i64 x, .int .i64 y] 25)
  have q := Lib.hid (bel_alloc q.out (.cells #[.int .i64 x, .int .i64 y] 25))
  have r2 := r2.alloc (.cells #[.int .i64 x, .int .i64 y] 25)
  go_wp2_with fail
  have b0 : Beside R w2 (w2.alloc (.cells #[.int .i64 x, .int .i64 y] 25)) := (Beside.refl R w2).alloc _
  have k5 : w2.heap.size < (w2.alloc (.cells #[.int .i64 x, .int .i64 y] 25)).heap.size := by simp
  generalize w2.alloc (.cells #[.int .i64 x, .int .i64 y] 25) = v at *
  have r2d : Rd v.drew R 8 := r2
  have S2d : Slot v.drew w.heap.size 0 0 := S2
  have S3d : Slot v.drew (w.heap.size + 1) 0 0 := S3
  have S5d : Slot v.drew w2.heap.size x y := S5
  obtain ⟨c1, c2, c3, c4, c5⟩ := S5
  have n3 : w.heap.size ≠ w2.heap.size := by have := S2.2.2.2.2; omega
  have n4 : w.heap.size + 1 ≠ w2.heap.size := by have := S3.2.2.2.2; omega
  have n1 : w2.heap.size ≠ w.heap.size := by have := S2.2.2.2.2; omega
  have n2 : w2.heap.size ≠ w.heap.size + 1 := by have := S3.2.2.2.2; omega
  go_region_held3 (fun w' => w'.cell? ⟨w2.heap.size, 0, none⟩ = some (.int .i64 x) ∧ w'.cell? ⟨w2.heap.size, 1, none⟩ = some (.int .i64 y)) (first | (with_reducible assumption) | go_keep) (first | (go_at_call 31; refine (pt_any R 8 _ _ r2d (by omega) (by omega) (by omega)).mono ?_; rintro e w3 ⟨⟨z, u, rfl, hz, hu⟩, r3, b⟩; have T2 := Slot.beside S2d b (by omega); have T3 := Slot.beside S3d b (by omega); have T5 := Slot.beside S5d b (by omega); obtain ⟨d1, d2, d3, d4, d5⟩ := T2; obtain ⟨d6, d7, d8, d9, d10⟩ := T3; obtain ⟨d11, d12, _, _, _⟩ := T5; have q3 := Lib.hid (got (by omega) q.out.drew b); clear b))
  all_goals
    go_wp2_with fail
    refine bodyPost_ret (v := .tuple #[.agg #[.int .i64 x, .int .i64 y], .agg #[.int .i64 z, .int .i64 u]]) (by simp [results, Try.results22, go_sem, d1, d2, d6, d7]) rfl ⟨⟨x, y, z, u, rfl, ⟨hx, hy⟩, ⟨hz, hu⟩⟩, ?_⟩
    exact bel_set (bel_set (bel_set (bel_set q3.out (by omega) _) (by omega) _) (by omega) _) (by omega) _
end Go.Proofs.Ytidlmganlcgeaaa
