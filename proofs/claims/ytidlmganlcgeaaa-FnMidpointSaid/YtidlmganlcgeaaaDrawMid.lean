/- Contract of the draw for the middle. -/
import Derived.Test.YtidlmganlcgeaaaDrawSq
namespace Go.Proofs.Ytidlmganlcgeaaa
open Go.ChangeShapes Go.WideShapes Go.ChangeAt Go.RowKit
set_option linter.unusedVariables false
theorem draw_mid (a : Option Addr) (len cap : Nat) (zs : List Int) (w : World) (h : IsRow .u8 w a len cap zs) :
    Calls Try.prog 24 #[.slice a len cap] w (Got w TwoPoints) := by
  have S2 := (Slot.new w 0 0 25).alloc (.cells #[.int .i64 0, .int .i64 0] 25)
  have S3 := Slot.new (w.alloc (.cells #[.int .i64 0, .int .i64 0] 25)) 0 0 25
  rw [World.size_alloc] at S3
  have q := Lib.hid (((Below.refl w.heap.size w).alloc (Nat.le_refl _) (.cells #[.int .i64 0, .int .i64 0] 25)).alloc (by simp) (.cells #[.int .i64 0, .int .i64 0] 25))
  have h1 := (h.alloc (.cells #[.int .i64 0, .int .i64 0] 25)).alloc (.cells #[.int .i64 0, .int .i64 0] 25)
  go_enter Try.func24, Try.ntmps24
  go_wp2_with fail
  refine (draw_sq a len cap zs _ h1).mono ?_
  rintro e w1 ⟨⟨x, y, z, u, rfl, hxy, hzu⟩, b⟩
  have S2 := S2.old b
  have S3 := S3.old b
  have q := Lib.hid (bel_trans q.out (Lib.hid b))
  clear b h1
  obtain ⟨d1, d2, d3, d4, d5⟩ := S2
  obtain ⟨d6, d7, d8, d9, d10⟩ := S3
  go_wp2_with fail
  refine bodyPost_ret (v := .tuple #[.agg #[.int .i64 x, .int .i64 y], .agg #[.int .i64 z, .int .i64 u]]) (by simp [results, Try.results24, go_sem, d1, d2, d6, d7]) rfl ⟨⟨x, y, z, u, rfl, hxy, hzu⟩, ?_⟩
  exact bel_set (bel_set (bel_set (bel_set q.out (by omega) _) (by omega) _) (by omega) _) (by omega) _
end Go.Proofs.Ytidlmganlcgeaaa
