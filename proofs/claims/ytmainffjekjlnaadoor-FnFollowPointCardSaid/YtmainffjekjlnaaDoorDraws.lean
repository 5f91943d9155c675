/- Contracts of the draws of arms, of arms with joint angles, and of moves. -/
import Derived.Test.YtmainffjekjlnaaDoorDrawJoints
namespace Go.Proofs.YtmainffjekjlnaaDoor
open Go.ChangeShapes Go.WideShapes Go.ChangeAt Go.RowKit
set_option linter.unusedVariables false
theorem beside_drew (R : Nat) (w : World) : Beside R w w.drew := ⟨rfl, rfl, rfl, Nat.le_refl _, fun _ _ _ => rfl⟩
theorem bel_beside {w a b : World} {R : Nat} (h : Below w.heap.size w a) (k : Beside R a b) (hR : w.heap.size ≤ R) : Below w.heap.size w b := h.trans (k.below hR h.size)
/-- three cells of the result are written -/
theorem res_fin {w W : World} {S B n1 c1 n2 c2 n3 c3 : Nat} {a1 a2 a3 : Option Addr} {l lo hi : List Int} {z1 z2 z3 : Value} (k : Cell3 W S z1 z2 z3) (hf : ArmFacts W B a1 n1 c1 a2 n2 c2 a3 n3 c3 l lo hi) (hS : S < B) (hb : Below w.heap.size w W) (hw : w.heap.size ≤ S) :
    ∃ wf, wf = ((W.setCell ⟨S, 0, none⟩ (.slice a1 n1 c1)).setCell ⟨S, 1, none⟩ (.slice a2 n2 c2)).setCell ⟨S, 2, none⟩ (.slice a3 n3 c3) ∧ Cell3 wf S (.slice a1 n1 c1) (.slice a2 n2 c2) (.slice a3 n3 c3) ∧ ArmFacts wf B a1 n1 c1 a2 n2 c2 a3 n3 c3 l lo hi ∧ Below w.heap.size w wf ∧ (∀ B' a J, S < B' → Span W B' a J → Span wf B' a J) :=
  ⟨_, rfl, ((k.put0 _).put1 _).put2 _, hf.keptBy (grown3 W S _ _ _) (fun i hi => by omega), ((hb.setCell (p := ⟨S, 0, none⟩) hw _).setCell (p := ⟨S, 1, none⟩) hw _).setCell (p := ⟨S, 2, none⟩) hw _, fun B' a J hB' h => h.keptBy (grown3 W S _ _ _) (fun i hi => by omega)⟩
def DrewArm (w : World) (e : Ending) (w' : World) : Prop := ∃ a1 n1 c1 a2 n2 c2 a3 n3 c3 l lo hi, e = .returned (.agg #[.slice a1 n1 c1, .slice a2 n2 c2, .slice a3 n3 c3]) ∧ ArmFacts w' w.heap.size a1 n1 c1 a2 n2 c2 a3 n3 c3 l lo hi ∧ Below w.heap.size w w'
/-- some angles, in the call's own memory -/
structure JFacts (w : World) (B : Nat) (a : Option Addr) (n : Nat) (J : List Int) : Prop where
  len : J.length = n
  le : n ≤ 6
  bd : ∀ x ∈ J, -1000 ≤ x ∧ x ≤ 1000
  s : Span w B a J
def DrewAJ (w : World) (e : Ending) (w' : World) : Prop := ∃ a1 n1 c1 a2 n2 c2 a3 n3 c3 l lo hi aj nj cj J, e = .returned (.tuple #[.agg #[.slice a1 n1 c1, .slice a2 n2 c2, .slice a3 n3 c3], .slice aj nj cj]) ∧ ArmFacts w' w.heap.size a1 n1 c1 a2 n2 c2 a3 n3 c3 l lo hi ∧ JFacts w' w.heap.size aj nj J ∧ Below w.heap.size w w'
end Go.Proofs.YtmainffjekjlnaaDoor
