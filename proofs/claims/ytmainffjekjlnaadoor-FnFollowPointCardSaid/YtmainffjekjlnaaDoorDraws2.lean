/- Contracts of the draws of an arm with a point to reach. -/
import Derived.Test.YtmainffjekjlnaaDoorTarget
import Derived.Test.YtmainffjekjlnaaDoorDraw
import Derived.Deep.RegionWith
namespace Go.Proofs.YtmainffjekjlnaaDoor
open Go.ChangeShapes Go.WideShapes Go.ChangeAt Go.RowKit
set_option linter.unusedVariables false
theorem slot_kept {may : Nat → Prop} {w w' : World} {k : Nat} {x y : Int} (h : Slot w k x y) (hk : Kept may w w') (hm : ¬ may k) : Slot w' k x y := by
  have hb := hk.block k h.2.2.2.2 hm
  exact ⟨(World.cell?_of_block (w := w) hb).trans h.1, (World.cell?_of_block (w := w) hb).trans h.2.1, (World.frozen?_of_block (w := w) hb).trans h.2.2.1, (World.frozen?_of_block (w := w) hb).trans h.2.2.2.1, Nat.lt_of_lt_of_le h.2.2.2.2 hk.size⟩
/-- the cells of the results, an arm and a point, are written -/
theorem res_fin2 {w W : World} {S B n1 c1 n2 c2 n3 c3 : Nat} {a1 a2 a3 : Option Addr} {l lo hi : List Int} {z1 z2 z3 : Value} {a b : Int} (X Y : Int) (k : Cell3 W S z1 z2 z3) (hs : Slot W (S + 1) a b) (hf : ArmFacts W B a1 n1 c1 a2 n2 c2 a3 n3 c3 l lo hi) (hS : S + 1 < B) (hb : Below w.heap.size w W) (hw : w.heap.size ≤ S) :
    ∃ wf, wf = ((((W.setCell ⟨S, 0, none⟩ (.slice a1 n1 c1)).setCell ⟨S, 1, none⟩ (.slice a2 n2 c2)).setCell ⟨S, 2, none⟩ (.slice a3 n3 c3)).setCell ⟨S + 1, 0, none⟩ (.int .i64 X)).setCell ⟨S + 1, 1, none⟩ (.int .i64 Y) ∧ Cell3 wf S (.slice a1 n1 c1) (.slice a2 n2 c2) (.slice a3 n3 c3) ∧ Slot wf (S + 1) X Y ∧ ArmFacts wf B a1 n1 c1 a2 n2 c2 a3 n3 c3 l lo hi ∧ Below w.heap.size w wf ∧ (∀ B' a J, S + 1 < B' → Span W B' a J → Span wf B' a J) := by
  obtain ⟨w1, h1, k1, f1, b1, s1⟩ := res_fin k hf (by omega) hb hw
  rw [← h1]
  have g3 := grown3 W S (.slice a1 n1 c1) (.slice a2 n2 c2) (.slice a3 n3 c3)
  rw [← h1] at g3
  have hs1 : Slot w1 (S + 1) a b := slot_kept hs g3 (by omega)
  have g := grown_set2 w1 (S + 1) (.int .i64 X) (.int .i64 Y)
  have gk : Kept (fun i => i = S + 1) w1 ((w1.setCell ⟨S + 1, 0, none⟩ (.int .i64 X)).setCell ⟨S + 1, 1, none⟩ (.int .i64 Y)) := Kept.of_grown g (fun i hi => by injection hi with hi; exact hi.symm)
  exact ⟨_, rfl, k1.grown g (by simp), hs1.put2 X Y, f1.keptBy gk (fun i hi => by omega), b1.grown g b1.size (fun i hi => by injection hi with hi; omega), fun B' a' J hB' h => (s1 B' a' J (by omega) h).keptBy gk (fun i hi => by omega)⟩
def DrewAJP (w : World) (e : Ending) (w' : World) : Prop := ∃ a1 n1 c1 a2 n2 c2 a3 n3 c3 l lo hi aj nj cj J X Y, e = .returned (.tuple #[.agg #[.slice a1 n1 c1, .slice a2 n2 c2, .slice a3 n3 c3], .slice aj nj cj, .agg #[.int .i64 X, .int .i64 Y]]) ∧ ArmFacts w' w.heap.size a1 n1 c1 a2 n2 c2 a3 n3 c3 l lo hi ∧ JFacts w' w.heap.size aj nj J ∧ Below w.heap.size w w'
end Go.Proofs.YtmainffjekjlnaaDoor
