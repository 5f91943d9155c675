/- Contract of the draw of a point for its direction. -/
import Derived.Test.YtlngkgpbmadmcaaDoorDrawPt
namespace Go.Proofs.YtlngkgpbmadmcaaDoor
open Go.ChangeShapes Go.WideShapes Go.ChangeAt Go.RowKit
set_option linter.unusedVariables false
theorem Slot.old {w w' : World} {k : Nat} {x y : Int} (h : Slot w k x y) (hb : Below w.heap.size w w') : Slot w' k x y := h.below hb h.2.2.2.2
def GotPt (w : World) (Q : Ending → Prop) (e : Ending) (w' : World) : Prop := Q e ∧ Below w.heap.size w w'
theorem gotPt {w w1 w2 : World} {R : Nat} (hR : w.heap.size ≤ R) (b1 : Below w.heap.size w w1) (b2 : Beside R w1 w2) : Below w.heap.size w w2 := b1.trans (b2.below hR b1.size)
theorem IsRow.alloc {k : IntKind} {w : World} {a : Option Addr} {len cap : Nat} {zs : List Int} (h : IsRow k w a len cap zs) (o : Obj) : IsRow k (w.alloc o) a len cap zs := h.below ((Below.refl _ _).alloc (Nat.le_refl _) o)
theorem draw_dir (a : Option Addr) (len cap : Nat) (zs : List Int) (w : World) (h : IsRow .u8 w a len cap zs) :
    Calls Tryd.prog 29 #[.slice a len cap] w (GotPt w APoint) := by
  have S := Slot.new w 0 0 29
  have q := Lib.hid ((Below.refl w.heap.size w).alloc (Nat.le_refl _) (.cells #[.int .i64 0, .int .i64 0] 29))
  have h1 := h.alloc (.cells #[.int .i64 0, .int .i64 0] 29)
  go_enter Tryd.func29, Tryd.ntmps29
  go_wp2_with fail
  refine (open_any a len cap zs _ h1).mono ?_
  rintro e w1 ⟨R, rfl, hR, r1, b⟩
  have hR2 : w.heap.size < R := by simp at hR; omega
  replace S := S.old b
  replace q := Lib.hid (bel_trans q.out (Lib.hid b))
  clear b h1
  go_wp2_with fail
  refine (odd_any R _ _ _ r1 (by omega) (by omega) (by omega)).mono ?_
  rintro e w2 ⟨⟨o, rfl⟩, r2, b⟩
  replace S := S.beside b (by omega)
  replace q := Lib.hid (gotPt (by omega) q.out b)
  clear b
  cases o
  · go_wp2_with fail
    refine (pt_any R _ _ _ r2 (by omega) (by omega) (by omega)).mono ?_
    rintro e w3 ⟨⟨x, y, rfl, hx, hy⟩, r3, b⟩
    replace S := S.beside b (by omega)
    replace q := Lib.hid (gotPt (by omega) q.out b)
    clear b
    obtain ⟨a1, a2, a3, a4, a5⟩ := S
    obtain ⟨x1, x2⟩ := hx
    obtain ⟨y1, y2⟩ := hy
    go_wp2_with fail
    refine bodyPost_ret (v := .agg #[.int .i64 x, .int .i64 y]) (by simp [results, Tryd.results29, go_sem, a1, a2]) rfl ⟨⟨x, y, rfl, ⟨x1, x2⟩, ⟨y1, y2⟩⟩, ?_⟩
    exact bel_set (bel_set q.out (Nat.le_refl _) _) (Nat.le_refl _) _
  · obtain ⟨a1, a2, a3, a4, a5⟩ := S
    go_wp2_with fail
    refine bodyPost_ret (v := .agg #[.int .i64 0, .int .i64 0]) (by simp [results, Tryd.results29, go_sem, a1, a2]) rfl ⟨⟨0, 0, rfl, ⟨by omega, by omega⟩, ⟨by omega, by omega⟩⟩, ?_⟩
    exact bel_set (bel_set q.out (Nat.le_refl _) _) (Nat.le_refl _) _
end Go.Proofs.YtlngkgpbmadmcaaDoor
