/- Contract of the draw of a point and a number of degrees. -/
import Derived.Test.YtlngkgpbmadmcaaDoorDrawPt
import Derived.Deep.RegionHeld3
namespace Go.Proofs.YtlngkgpbmadmcaaDoor
open Go.ChangeShapes Go.WideShapes Go.ChangeAt Go.RowKit
set_option linter.unusedVariables false
theorem Slot.oldR {w w' : World} {k : Nat} {x y : Int} (h : Slot w k x y) (hb : Below w.heap.size w w') : Slot w' k x y := h.below hb h.2.2.2.2
def GotPD (w : World) (e : Ending) (w' : World) : Prop := (∃ x y d : Int, e = .returned (.tuple #[.agg #[.int .i64 x, .int .i64 y], .int .i64 d]) ∧ (-10001 ≤ x ∧ x ≤ 10001) ∧ (-10001 ≤ y ∧ y ≤ 10001)) ∧ Below w.heap.size w w'
theorem gotPD {w w1 w2 : World} {R : Nat} (hR : w.heap.size ≤ R) (b1 : Below w.heap.size w w1) (b2 : Beside R w1 w2) : Below w.heap.size w w2 := b1.trans (b2.below hR b1.size)
theorem IsRow.allocR {k : IntKind} {w : World} {a : Option Addr} {len cap : Nat} {zs : List Int} (h : IsRow k w a len cap zs) (o : Obj) : IsRow k (w.alloc o) a len cap zs := h.below ((Below.refl _ _).alloc (Nat.le_refl _) o)
set_option maxHeartbeats 1000000 in
theorem draw_rot (a : Option Addr) (len cap : Nat) (zs : List Int) (w : World) (h : IsRow .u8 w a len cap zs) :
    Calls Tryd.prog 23 #[.slice a len cap] w (GotPD w) := by
  have S2 := Slot.new w 0 0 29
  have q := Lib.hid ((Below.refl w.heap.size w).alloc (Nat.le_refl _) (.cells #[.int .i64 0, .int .i64 0] 29))
  have h1 := h.allocR (.cells #[.int .i64 0, .int .i64 0] 29)
  go_enter Tryd.func23, Tryd.ntmps23
  go_wp2_with fail
  refine (open_any a len cap zs _ h1).mono ?_
  rintro e w1 ⟨R, rfl, hR, r1, b⟩
  have hR2 : w.heap.size < R := by simp at hR; omega
  replace S2 := S2.oldR b
  replace q := Lib.hid (bel_trans q.out (Lib.hid b))
  clear b h1
  go_wp2_with fail
  refine (pt_any R _ _ _ r1 (by omega) (by omega) (by omega)).mono ?_
  rintro e w2 ⟨⟨x, y, rfl, hx, hy⟩, r2, b⟩
  replace S2 := S2.beside b (by omega)
  replace q := Lib.hid (gotPD (by omega) q.out b)
  clear b
  have l2 := r2.lt
  have r2 : Rd w2 R 8 := r2
  have S5 := Slot.new w2 x y 29
  replace S2 := S2.alloc (.cells #[.int .i64 x, .int .i64 y] 29)
  replace q := Lib.hid (bel_alloc q.out (.cells #[.int .i64 x, .int .i64 y] 29))
  replace r2 := r2.alloc (.cells #[.int .i64 x, .int .i64 y] 29)
  go_wp2_with fail
  have k5 : w2.heap.size < (w2.alloc (.cells #[.int .i64 x, .int .i64 y] 29)).heap.size := by simp
  generalize w2.alloc (.cells #[.int .i64 x, .int .i64 y] 29) = v at *
  have r2d : Rd v.drew R 8 := r2
  have S2d : Slot v.drew w.heap.size 0 0 := S2
  have S5d : Slot v.drew w2.heap.size x y := S5
  obtain ⟨c1, c2, c3, c4, c5⟩ := S5
  have n3 : w.heap.size ≠ w2.heap.size := by have := S2.2.2.2.2; omega
  have n1 : w2.heap.size ≠ w.heap.size := by omega
  go_region_held3 (fun w' => w'.cell? ⟨w2.heap.size, 0, none⟩ = some (.int .i64 x) ∧ w'.cell? ⟨w2.heap.size, 1, none⟩ = some (.int .i64 y)) (first | (with_reducible assumption) | go_keep) (first | (go_at_call 35; refine (deg_any R 8 _ r2d (by omega)).mono ?_; rintro e w3 ⟨⟨d, rfl⟩, r3, b⟩; have T2 := Slot.beside S2d b (by omega); have T5 := Slot.beside S5d b (by omega); obtain ⟨d1, d2, d3, d4, d5⟩ := T2; obtain ⟨d11, d12, _, _, _⟩ := T5; have q3 := Lib.hid (gotPD (by omega) q.out.drew b); clear b))
  all_goals
    go_wp2_with fail
    refine bodyPost_ret (v := .tuple #[.agg #[.int .i64 x, .int .i64 y], .int .i64 d]) (by simp [results, Tryd.results23, go_sem, d1, d2]) rfl ⟨⟨x, y, d, rfl, hx, hy⟩, ?_⟩
    exact bel_set (bel_set q3.out (by omega) _) (by omega) _
end Go.Proofs.YtlngkgpbmadmcaaDoor
