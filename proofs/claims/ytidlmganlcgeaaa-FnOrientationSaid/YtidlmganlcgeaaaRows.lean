/-
  No cell of these rows narrows 'for every input' (looked for: loops, veiled, ifaces, maps, wideKeys, modest, calm, conditions, laid).
  DERIVED. THE GIVEN ROWS OF THIS SEAT. 8 by the template 'for every input the law returns true; each argument reads behind the call as it read before'; 0 by the template 'total and deterministic' (their statements: YtidlmganlcgeaaaTotals.lean).
  GIVEN WITH THE SEED: the statements are not yours to turn. If you find one false, say at which input.
  Laid BY PROGRAM, IN A SANDBOX (cutbox-rows.mjs): the forced cells as the released guide's own fill.sh prints them over the translation 97906e0a86e38f8b… (all of the seat's roots in one cut). By AI agents, Wed Nov 11 2026. No macro, syntax, notation, axiom, sorry.
-/
import Derived.Test.YtidlmganlcgeaaaChecked
import GoSem.Claim
import GoSem.ClaimJoined
import GoSem.ClaimMapViews
import Derived.JoinedTies
import Derived.KernelRfl
namespace Go.Proofs.Ytidlmganlcgeaaa
/- THE CELL 'sum', in the pinned program and in every row, IS THE sha256 OF THE DUMP (.gsa) THAT YtidlmganlcgeaaaProg.lean LOADS. Nothing in Lean hashes anything: it is a label: what it is worth is what the hold of that sum in a sandbox is worth. -/
noncomputable def Try.pinned : Pinned := { name := "ytidlmganlcgeaaa", sum := "97906e0a86e38f8b6ad612780dc2a83f360d6afbce08cb4651c7d19591ace168", checked := Try.checked }
namespace Rows
def none {H : Type} : Left H := { results := [], args := [] }

/-- 'laws.FnExactPointValid': WHATEVER THE INPUT: true; the input reads as it did. -/
def fnExactPointValidSpec : ChangeSpec := { name := "fnExactPointValid", fn := fun _ => fun
  | [d] => { results := [.lit (.bool true)], args := [d] }
  | _ => none }
def fnExactPointValidRow : OpenClaim := { program := "ytidlmganlcgeaaa", sum := "97906e0a86e38f8b6ad612780dc2a83f360d6afbce08cb4651c7d19591ace168", func := "loop.example/robotcell/laws.FnExactPointValid", spec := "fnExactPointValid", apart := false }
def FnExactPointValidSaid : Prop := fnExactPointValidRow.holds Try.pinned (OpenSpec.ofChange fnExactPointValidSpec)

/-- ITS FALSE NEIGHBOUR: 'it returns false'. Refute it at one input. -/
def fnExactPointValidWrong : ChangeSpec := { name := "fnExactPointValid", fn := fun _ => fun
  | [d] => { results := [.lit (.bool false)], args := [d] }
  | _ => none }
def FnExactPointValidWrongFalsely : Prop := fnExactPointValidRow.holds Try.pinned (OpenSpec.ofChange fnExactPointValidWrong)

/-- 'laws.FnExactSquaredDistance': WHATEVER THE INPUT: true; the input reads as it did. -/
def fnExactSquaredDistanceSpec : ChangeSpec := { name := "fnExactSquaredDistance", fn := fun _ => fun
  | [d1, d2] => { results := [.lit (.bool true)], args := [d1, d2] }
  | _ => none }
def fnExactSquaredDistanceRow : OpenClaim := { program := "ytidlmganlcgeaaa", sum := "97906e0a86e38f8b6ad612780dc2a83f360d6afbce08cb4651c7d19591ace168", func := "loop.example/robotcell/laws.FnExactSquaredDistance", spec := "fnExactSquaredDistance", apart := false }
def FnExactSquaredDistanceSaid : Prop := fnExactSquaredDistanceRow.holds Try.pinned (OpenSpec.ofChange fnExactSquaredDistanceSpec)

/-- ITS FALSE NEIGHBOUR: 'it returns false'. Refute it at one input. -/
def fnExactSquaredDistanceWrong : ChangeSpec := { name := "fnExactSquaredDistance", fn := fun _ => fun
  | [d1, d2] => { results := [.lit (.bool false)], args := [d1, d2] }
  | _ => none }
def FnExactSquaredDistanceWrongFalsely : Prop := fnExactSquaredDistanceRow.holds Try.pinned (OpenSpec.ofChange fnExactSquaredDistanceWrong)

/-- 'laws.FnPointValid': WHATEVER THE INPUT: true; the input reads as it did. -/
def fnPointValidSpec : ChangeSpec := { name := "fnPointValid", fn := fun _ => fun
  | [d] => { results := [.lit (.bool true)], args := [d] }
  | _ => none }
def fnPointValidRow : OpenClaim := { program := "ytidlmganlcgeaaa", sum := "97906e0a86e38f8b6ad612780dc2a83f360d6afbce08cb4651c7d19591ace168", func := "loop.example/robotcell/laws.FnPointValid", spec := "fnPointValid", apart := false }
def FnPointValidSaid : Prop := fnPointValidRow.holds Try.pinned (OpenSpec.ofChange fnPointValidSpec)

/-- ITS FALSE NEIGHBOUR: 'it returns false'. Refute it at one input. -/
def fnPointValidWrong : ChangeSpec := { name := "fnPointValid", fn := fun _ => fun
  | [d] => { results := [.lit (.bool false)], args := [d] }
  | _ => none }
def FnPointValidWrongFalsely : Prop := fnPointValidRow.holds Try.pinned (OpenSpec.ofChange fnPointValidWrong)

/-- 'laws.FnExactMidpoint': WHATEVER THE INPUT: true; the input reads as it did. -/
def fnExactMidpointSpec : ChangeSpec := { name := "fnExactMidpoint", fn := fun _ => fun
  | [d1, d2] => { results := [.lit (.bool true)], args := [d1, d2] }
  | _ => none }
def fnExactMidpointRow : OpenClaim := { program := "ytidlmganlcgeaaa", sum := "97906e0a86e38f8b6ad612780dc2a83f360d6afbce08cb4651c7d19591ace168", func := "loop.example/robotcell/laws.FnExactMidpoint", spec := "fnExactMidpoint", apart := false }
def FnExactMidpointSaid : Prop := fnExactMidpointRow.holds Try.pinned (OpenSpec.ofChange fnExactMidpointSpec)

/-- ITS FALSE NEIGHBOUR: 'it returns false'. Refute it at one input. -/
def fnExactMidpointWrong : ChangeSpec := { name := "fnExactMidpoint", fn := fun _ => fun
  | [d1, d2] => { results := [.lit (.bool false)], args := [d1, d2] }
  | _ => none }
def FnExactMidpointWrongFalsely : Prop := fnExactMidpointRow.holds Try.pinned (OpenSpec.ofChange fnExactMidpointWrong)

/-- 'laws.FnExactOrientation': WHATEVER THE INPUT: true; the input reads as it did. -/
def fnExactOrientationSpec : ChangeSpec := { name := "fnExactOrientation", fn := fun _ => fun
  | [d1, d2, d3] => { results := [.lit (.bool true)], args := [d1, d2, d3] }
  | _ => none }
def fnExactOrientationRow : OpenClaim := { program := "ytidlmganlcgeaaa", sum := "97906e0a86e38f8b6ad612780dc2a83f360d6afbce08cb4651c7d19591ace168", func := "loop.example/robotcell/laws.FnExactOrientation", spec := "fnExactOrientation", apart := false }
def FnExactOrientationSaid : Prop := fnExactOrientationRow.holds Try.pinned (OpenSpec.ofChange fnExactOrientationSpec)

/-- ITS FALSE NEIGHBOUR: 'it returns false'. Refute it at one input. -/
def fnExactOrientationWrong : ChangeSpec := { name := "fnExactOrientation", fn := fun _ => fun
  | [d1, d2, d3] => { results := [.lit (.bool false)], args := [d1, d2, d3] }
  | _ => none }
def FnExactOrientationWrongFalsely : Prop := fnExactOrientationRow.holds Try.pinned (OpenSpec.ofChange fnExactOrientationWrong)

/-- 'laws.FnSquaredDistance': WHATEVER THE INPUT: true; the input reads as it did. -/
def fnSquaredDistanceSpec : ChangeSpec := { name := "fnSquaredDistance", fn := fun _ => fun
  | [d] => { results := [.lit (.bool true)], args := [d] }
  | _ => none }
def fnSquaredDistanceRow : OpenClaim := { program := "ytidlmganlcgeaaa", sum := "97906e0a86e38f8b6ad612780dc2a83f360d6afbce08cb4651c7d19591ace168", func := "loop.example/robotcell/laws.FnSquaredDistance", spec := "fnSquaredDistance", apart := false }
def FnSquaredDistanceSaid : Prop := fnSquaredDistanceRow.holds Try.pinned (OpenSpec.ofChange fnSquaredDistanceSpec)

/-- ITS FALSE NEIGHBOUR: 'it returns false'. Refute it at one input. -/
def fnSquaredDistanceWrong : ChangeSpec := { name := "fnSquaredDistance", fn := fun _ => fun
  | [d] => { results := [.lit (.bool false)], args := [d] }
  | _ => none }
def FnSquaredDistanceWrongFalsely : Prop := fnSquaredDistanceRow.holds Try.pinned (OpenSpec.ofChange fnSquaredDistanceWrong)

/-- 'laws.FnMidpoint': WHATEVER THE INPUT: true; the input reads as it did. -/
def fnMidpointSpec : ChangeSpec := { name := "fnMidpoint", fn := fun _ => fun
  | [d] => { results := [.lit (.bool true)], args := [d] }
  | _ => none }
def fnMidpointRow : OpenClaim := { program := "ytidlmganlcgeaaa", sum := "97906e0a86e38f8b6ad612780dc2a83f360d6afbce08cb4651c7d19591ace168", func := "loop.example/robotcell/laws.FnMidpoint", spec := "fnMidpoint", apart := false }
def FnMidpointSaid : Prop := fnMidpointRow.holds Try.pinned (OpenSpec.ofChange fnMidpointSpec)

/-- ITS FALSE NEIGHBOUR: 'it returns false'. Refute it at one input. -/
def fnMidpointWrong : ChangeSpec := { name := "fnMidpoint", fn := fun _ => fun
  | [d] => { results := [.lit (.bool false)], args := [d] }
  | _ => none }
def FnMidpointWrongFalsely : Prop := fnMidpointRow.holds Try.pinned (OpenSpec.ofChange fnMidpointWrong)

/-- 'laws.FnOrientation': WHATEVER THE INPUT: true; the input reads as it did. -/
def fnOrientationSpec : ChangeSpec := { name := "fnOrientation", fn := fun _ => fun
  | [d] => { results := [.lit (.bool true)], args := [d] }
  | _ => none }
def fnOrientationRow : OpenClaim := { program := "ytidlmganlcgeaaa", sum := "97906e0a86e38f8b6ad612780dc2a83f360d6afbce08cb4651c7d19591ace168", func := "loop.example/robotcell/laws.FnOrientation", spec := "fnOrientation", apart := false }
def FnOrientationSaid : Prop := fnOrientationRow.holds Try.pinned (OpenSpec.ofChange fnOrientationSpec)

/-- ITS FALSE NEIGHBOUR: 'it returns false'. Refute it at one input. -/
def fnOrientationWrong : ChangeSpec := { name := "fnOrientation", fn := fun _ => fun
  | [d] => { results := [.lit (.bool false)], args := [d] }
  | _ => none }
def FnOrientationWrongFalsely : Prop := fnOrientationRow.holds Try.pinned (OpenSpec.ofChange fnOrientationWrong)

/- THE SECOND FORM. 'bulk': how many values and letters a reading holds, each counted each time it is reached (what is shared counts as often as it is met; a slice's spare places count too). A statement '..UptoSaid' is the law's where the arguments, and the package variables that the reading takes, are together of bulk at most 1048576: NARROWER than '..Said'. Prove '..Said' where nothing that the law and all that it calls make is longer than what came in: it says more and counts as full. Else prove '..UptoSaid'. A law counts once. -/
mutual
def uptoBulk {H : Type} : DataW H → Nat
  | .lit (.string bytes) => bytes.length + 1
  | .lit _ => 1
  | .nil => 1
  | .ptr d => uptoBulk d + 1
  | .slice elems spare => uptoBulkAll elems + uptoBulkAll spare + 1
  | .agg parts => uptoBulkAll parts + 1
  | .iface _ d => uptoBulk d + 1
  | .map entries => uptoBulkEntries entries + 1
  | .held _ => 1
def uptoBulkAll {H : Type} : List (DataW H) → Nat
  | [] => 0
  | d :: r => uptoBulk d + uptoBulkAll r
def uptoBulkEntries {H : Type} : List (Lit × DataW H) → Nat
  | [] => 0
  | x :: r => uptoBulkEntry x + uptoBulkEntries r
def uptoBulkEntry {H : Type} : Lit × DataW H → Nat
  | (.string bytes, d) => bytes.length + uptoBulk d + 1
  | (_, d) => uptoBulk d + 1
 end
def uptoSmall : (H : Type) → List (DataW H) → Bool := fun _ ds => decide (uptoBulkAll ds ≤ 1048576)
def OpenSpec.upto (s : _root_.Go.ChangeSpec) : _root_.Go.OpenSpec := { _root_.Go.OpenSpec.ofChange s with cond := some uptoSmall }

/-- 'laws.FnExactPointValid', WHERE WHAT IT READS IS OF BULK AT MOST 1048576: true; the input reads as it did. -/
def fnExactPointValidUptoRow : OpenClaim := { program := "ytidlmganlcgeaaa", sum := "97906e0a86e38f8b6ad612780dc2a83f360d6afbce08cb4651c7d19591ace168", func := "loop.example/robotcell/laws.FnExactPointValid", spec := "fnExactPointValid", apart := false, narrowed := true }
def FnExactPointValidUptoSaid : Prop := fnExactPointValidUptoRow.holds Try.pinned (OpenSpec.upto fnExactPointValidSpec)

/-- 'laws.FnExactSquaredDistance', WHERE WHAT IT READS IS OF BULK AT MOST 1048576: true; the input reads as it did. -/
def fnExactSquaredDistanceUptoRow : OpenClaim := { program := "ytidlmganlcgeaaa", sum := "97906e0a86e38f8b6ad612780dc2a83f360d6afbce08cb4651c7d19591ace168", func := "loop.example/robotcell/laws.FnExactSquaredDistance", spec := "fnExactSquaredDistance", apart := false, narrowed := true }
def FnExactSquaredDistanceUptoSaid : Prop := fnExactSquaredDistanceUptoRow.holds Try.pinned (OpenSpec.upto fnExactSquaredDistanceSpec)

/-- 'laws.FnPointValid', WHERE WHAT IT READS IS OF BULK AT MOST 1048576: true; the input reads as it did. -/
def fnPointValidUptoRow : OpenClaim := { program := "ytidlmganlcgeaaa", sum := "97906e0a86e38f8b6ad612780dc2a83f360d6afbce08cb4651c7d19591ace168", func := "loop.example/robotcell/laws.FnPointValid", spec := "fnPointValid", apart := false, narrowed := true }
def FnPointValidUptoSaid : Prop := fnPointValidUptoRow.holds Try.pinned (OpenSpec.upto fnPointValidSpec)

/-- 'laws.FnExactMidpoint', WHERE WHAT IT READS IS OF BULK AT MOST 1048576: true; the input reads as it did. -/
def fnExactMidpointUptoRow : OpenClaim := { program := "ytidlmganlcgeaaa", sum := "97906e0a86e38f8b6ad612780dc2a83f360d6afbce08cb4651c7d19591ace168", func := "loop.example/robotcell/laws.FnExactMidpoint", spec := "fnExactMidpoint", apart := false, narrowed := true }
def FnExactMidpointUptoSaid : Prop := fnExactMidpointUptoRow.holds Try.pinned (OpenSpec.upto fnExactMidpointSpec)

/-- 'laws.FnExactOrientation', WHERE WHAT IT READS IS OF BULK AT MOST 1048576: true; the input reads as it did. -/
def fnExactOrientationUptoRow : OpenClaim := { program := "ytidlmganlcgeaaa", sum := "97906e0a86e38f8b6ad612780dc2a83f360d6afbce08cb4651c7d19591ace168", func := "loop.example/robotcell/laws.FnExactOrientation", spec := "fnExactOrientation", apart := false, narrowed := true }
def FnExactOrientationUptoSaid : Prop := fnExactOrientationUptoRow.holds Try.pinned (OpenSpec.upto fnExactOrientationSpec)

/-- 'laws.FnSquaredDistance', WHERE WHAT IT READS IS OF BULK AT MOST 1048576: true; the input reads as it did. -/
def fnSquaredDistanceUptoRow : OpenClaim := { program := "ytidlmganlcgeaaa", sum := "97906e0a86e38f8b6ad612780dc2a83f360d6afbce08cb4651c7d19591ace168", func := "loop.example/robotcell/laws.FnSquaredDistance", spec := "fnSquaredDistance", apart := false, narrowed := true }
def FnSquaredDistanceUptoSaid : Prop := fnSquaredDistanceUptoRow.holds Try.pinned (OpenSpec.upto fnSquaredDistanceSpec)

/-- 'laws.FnMidpoint', WHERE WHAT IT READS IS OF BULK AT MOST 1048576: true; the input reads as it did. -/
def fnMidpointUptoRow : OpenClaim := { program := "ytidlmganlcgeaaa", sum := "97906e0a86e38f8b6ad612780dc2a83f360d6afbce08cb4651c7d19591ace168", func := "loop.example/robotcell/laws.FnMidpoint", spec := "fnMidpoint", apart := false, narrowed := true }
def FnMidpointUptoSaid : Prop := fnMidpointUptoRow.holds Try.pinned (OpenSpec.upto fnMidpointSpec)

/-- 'laws.FnOrientation', WHERE WHAT IT READS IS OF BULK AT MOST 1048576: true; the input reads as it did. -/
def fnOrientationUptoRow : OpenClaim := { program := "ytidlmganlcgeaaa", sum := "97906e0a86e38f8b6ad612780dc2a83f360d6afbce08cb4651c7d19591ace168", func := "loop.example/robotcell/laws.FnOrientation", spec := "fnOrientation", apart := false, narrowed := true }
def FnOrientationUptoSaid : Prop := fnOrientationUptoRow.holds Try.pinned (OpenSpec.upto fnOrientationSpec)

end Rows
end Go.Proofs.Ytidlmganlcgeaaa
