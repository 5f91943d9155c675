/- Slice literals of numbers that a region makes while its order is drawn: their cells, and a stronger condition for the rest of the region. -/
import Derived.Test.YtmainffjekjlnaaDoorDrawPt
import Derived.Deep.RegionHeld3
namespace Go.Proofs.YtmainffjekjlnaaDoor
open Go.ChangeShapes Go.WideShapes Go.ChangeAt Go.RowKit
set_option linter.unusedVariables false
/-- from here on the region may go under a stronger condition -/
theorem wpAnyH_strong {P : Program} {ops : Array Oper} {Q : Exit → Act → World → Prop} {md : Region.Mode} {S S' : World → Prop} (h : ∀ w, S' w → S w) : ∀ {fuel : Nat} {listed : Array Bool} {a : Act} {w : World}, wpAnyH P md ops Q S' fuel listed a w → wpAnyH P md ops Q S fuel listed a w
  | 0, _, _, _, H => H
  | _ + 1, _, _, _, H => ⟨H.1, fun i hi => wpOp_mono (fun _ w' h' => ⟨h w' h'.1, wpAnyH_strong h h'.2⟩) (H.2 i hi)⟩
/-- the cells of a literal -/
def LitAt (w : World) (J : Nat) (l : List Int) : Prop := ∀ k, k < l.length → w.cell? ⟨J, k, none⟩ = some (.int .i64 (l.getD k 0))
theorem LitAt.new (w : World) (l : List Int) (t : TypeId) : LitAt (w.alloc (.cells (l.map (Value.int .i64)).toArray t)) w.heap.size l := by
  intro k hk
  have h := alloc1 w (.cells (l.map (Value.int .i64)).toArray t)
  generalize w.alloc (.cells (l.map (Value.int .i64)).toArray t) = v at *
  simp [World.cell?, h, hk]
theorem LitAt.of_block {w w' : World} {J : Nat} {l : List Int} (h : LitAt w J l) (hb : w'.heap[J]? = w.heap[J]?) : LitAt w' J l := fun k hk => (World.cell?_of_block (w := w) hb).trans (h k hk)
theorem LitAt.beside {w w' : World} {R J : Nat} {l : List Int} (h : LitAt w J l) (b : Beside R w w') (hJ : J < w.heap.size) (hR : J ≠ R) : LitAt w' J l := h.of_block (b.block J hJ hR)
theorem LitAt.alloc {w : World} {J : Nat} {l : List Int} (h : LitAt w J l) (hJ : J < w.heap.size) (o : Obj) : LitAt (w.alloc o) J l := h.of_block (Below.heap_alloc _ _ _ hJ)
theorem LitAt.set {w : World} {J j o : Nat} {l : List Int} (h : LitAt w J l) (u : Value) (hk : j ≠ J) : LitAt (w.setCell ⟨j, o, none⟩ u) J l := h.of_block (Below.heap_setCell _ _ _ _ (by show J ≠ j; exact Ne.symm hk))
end Go.Proofs.YtmainffjekjlnaaDoor
