/- Contracts of the draws of angles. -/
import Derived.Test.YtmainffjekjlnaaDoorDeg
import Derived.Test.YtmainffjekjlnaaDoorAngle
import Derived.Deep.RegionWith
namespace Go.Proofs.YtmainffjekjlnaaDoor
open Go.ChangeShapes Go.WideShapes Go.ChangeAt Go.RowKit
set_option linter.unusedVariables false
/-- the outcome of a whole draw: some result, nothing old has turned -/
def Got (w : World) (Q : Ending → Prop) (e : Ending) (w' : World) : Prop := Q e ∧ Below w.heap.size w w'
def TwoInts (e : Ending) : Prop := ∃ y z : Int, e = .returned (.tuple #[.int .i64 y, .int .i64 z])
def ThreeInts (e : Ending) : Prop := ∃ y z u : Int, e = .returned (.tuple #[.int .i64 y, .int .i64 z, .int .i64 u])
theorem got {w w1 w2 : World} {R : Nat} (hR : w.heap.size ≤ R) (b1 : Below w.heap.size w w1) (b2 : Beside R w1 w2) : Below w.heap.size w w2 := b1.trans (b2.below hR b1.size)
theorem Beside.drew {R : Nat} {a w : World} (h : Beside R a w) : Beside R a w.drew := ⟨h.os, h.tape, h.output, h.size, h.block⟩
theorem Rd.drew {w : World} {R m : Nat} (h : Rd w R m) : Rd w.drew R m := h
theorem rules {R m : Nat} {W w' : World} (b : Beside R W w') (r : Rd w' R m) :
    (∀ k o, k < W.heap.size → k ≠ R → w'.cell? ⟨k, o, none⟩ = W.cell? ⟨k, o, none⟩) ∧ W.heap.size ≤ w'.heap.size ∧ w'.heap.size ≠ R ∧ w'.heap.size + 1 ≠ R :=
  ⟨fun k o h h' => b.cell h h', b.size, Nat.ne_of_gt r.lt, by have := r.lt; omega⟩
theorem lit_elem (l : List Int) (Q : Int → Prop) (hQ : ∀ x ∈ l, Q x) (v : Int) (h0 : 0 ≤ v) (h1 : v < l.length) : ∃ u, Q u ∧ ∀ h, (l.map (Value.int .i64))[v.toNat]'h = .int .i64 u := by
  have hv : v.toNat < l.length := by omega
  exact ⟨l[v.toNat], hQ _ (List.getElem_mem hv), fun h => by simp⟩
theorem alloc_skip (W : World) (A B : Obj) (o : Nat) : ((W.alloc A).alloc B).cell? ⟨W.heap.size, o, none⟩ = (W.alloc A).cell? ⟨W.heap.size, o, none⟩ :=
  World.cell?_alloc_lt _ _ _ (by simp)
theorem tmod1000 (a : Int) : -1000 < a.tmod 1000 ∧ a.tmod 1000 < 1000 := by
  rcases Int.lt_or_le a 0 with h | h
  · rw [M.tmod_neg a 1000 (by omega)]; omega
  · rw [M.tmod_pos a 1000 h]; omega
end Go.Proofs.YtmainffjekjlnaaDoor
