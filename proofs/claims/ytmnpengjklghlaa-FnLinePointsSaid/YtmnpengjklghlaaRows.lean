/-
  No cell of these rows narrows 'for every input' (looked for: loops, veiled, ifaces, maps, wideKeys, modest, calm, conditions, laid).
  DERIVED. THE GIVEN ROWS OF THIS SEAT. 4 by the template 'for every input the law returns true; each argument reads behind the call as it read before'; 0 by the template 'total and deterministic' (their statements: YtmnpengjklghlaaTotals.lean).
  GIVEN WITH THE SEED: the statements are not yours to turn. If you find one false, say at which input.
  Laid BY PROGRAM, IN A SANDBOX (cutbox-rows.mjs): the forced cells as the released guide's own fill.sh prints them over the translation 4f1009b181c7aef8… (all of the seat's roots in one cut). By AI agents, Wed Nov 11 2026. No macro, syntax, notation, axiom, sorry.
-/
import Derived.Test.YtmnpengjklghlaaChecked
import GoSem.Claim
import GoSem.ClaimJoined
import GoSem.ClaimMapViews
import Derived.JoinedTies
import Derived.KernelRfl
namespace Go.Proofs.Ytmnpengjklghlaa
/- THE CELL 'sum', in the pinned program and in every row, IS THE sha256 OF THE DUMP (.gsa) THAT YtmnpengjklghlaaProg.lean LOADS. Nothing in Lean hashes anything: it is a label: what it is worth is what the hold of that sum in a sandbox is worth. -/
noncomputable def Try.pinned : Pinned := { name := "ytmnpengjklghlaa", sum := "4f1009b181c7aef8ccd0edee0d3a6afe57eff24fd7c49164cded7c7879aaa9e3", checked := Try.checked }
namespace Rows
def none {H : Type} : Left H := { results := [], args := [] }

/-- 'laws.FnExactLinePoints': WHATEVER THE INPUT: true; the input reads as it did. -/
def fnExactLinePointsSpec : ChangeSpec := { name := "fnExactLinePoints", fn := fun _ => fun
  | [d1, d2, d3] => { results := [.lit (.bool true)], args := [d1, d2, d3] }
  | _ => none }
def fnExactLinePointsRow : OpenClaim := { program := "ytmnpengjklghlaa", sum := "4f1009b181c7aef8ccd0edee0d3a6afe57eff24fd7c49164cded7c7879aaa9e3", func := "loop.example/robotcell/laws.FnExactLinePoints", spec := "fnExactLinePoints", apart := false }
def FnExactLinePointsSaid : Prop := fnExactLinePointsRow.holds Try.pinned (OpenSpec.ofChange fnExactLinePointsSpec)

/-- ITS FALSE NEIGHBOUR: 'it returns false'. Refute it at one input. -/
def fnExactLinePointsWrong : ChangeSpec := { name := "fnExactLinePoints", fn := fun _ => fun
  | [d1, d2, d3] => { results := [.lit (.bool false)], args := [d1, d2, d3] }
  | _ => none }
def FnExactLinePointsWrongFalsely : Prop := fnExactLinePointsRow.holds Try.pinned (OpenSpec.ofChange fnExactLinePointsWrong)

/-- 'laws.FnLinePoints': WHATEVER THE INPUT: true; the input reads as it did. -/
def fnLinePointsSpec : ChangeSpec := { name := "fnLinePoints", fn := fun _ => fun
  | [d] => { results := [.lit (.bool true)], args := [d] }
  | _ => none }
def fnLinePointsRow : OpenClaim := { program := "ytmnpengjklghlaa", sum := "4f1009b181c7aef8ccd0edee0d3a6afe57eff24fd7c49164cded7c7879aaa9e3", func := "loop.example/robotcell/laws.FnLinePoints", spec := "fnLinePoints", apart := false }
def FnLinePointsSaid : Prop := fnLinePointsRow.holds Try.pinned (OpenSpec.ofChange fnLinePointsSpec)

/-- ITS FALSE NEIGHBOUR: 'it returns false'. Refute it at one input. -/
def fnLinePointsWrong : ChangeSpec := { name := "fnLinePoints", fn := fun _ => fun
  | [d] => { results := [.lit (.bool false)], args := [d] }
  | _ => none }
def FnLinePointsWrongFalsely : Prop := fnLinePointsRow.holds Try.pinned (OpenSpec.ofChange fnLinePointsWrong)

/-- 'laws.FnExactSquareRoot': WHATEVER THE INPUT: true; the input reads as it did. -/
def fnExactSquareRootSpec : ChangeSpec := { name := "fnExactSquareRoot", fn := fun _ => fun
  | [d] => { results := [.lit (.bool true)], args := [d] }
  | _ => none }
def fnExactSquareRootRow : OpenClaim := { program := "ytmnpengjklghlaa", sum := "4f1009b181c7aef8ccd0edee0d3a6afe57eff24fd7c49164cded7c7879aaa9e3", func := "loop.example/robotcell/laws.FnExactSquareRoot", spec := "fnExactSquareRoot", inPlace := ["math.sqrt"], apart := false }
def FnExactSquareRootSaid : Prop := fnExactSquareRootRow.holds Try.pinned (OpenSpec.ofChange fnExactSquareRootSpec)

/-- ITS FALSE NEIGHBOUR: 'it returns false'. Refute it at one input. -/
def fnExactSquareRootWrong : ChangeSpec := { name := "fnExactSquareRoot", fn := fun _ => fun
  | [d] => { results := [.lit (.bool false)], args := [d] }
  | _ => none }
def FnExactSquareRootWrongFalsely : Prop := fnExactSquareRootRow.holds Try.pinned (OpenSpec.ofChange fnExactSquareRootWrong)

/-- 'laws.FnSquareRoot': WHATEVER THE INPUT: true; the input reads as it did. -/
def fnSquareRootSpec : ChangeSpec := { name := "fnSquareRoot", fn := fun _ => fun
  | [d] => { results := [.lit (.bool true)], args := [d] }
  | _ => none }
def fnSquareRootRow : OpenClaim := { program := "ytmnpengjklghlaa", sum := "4f1009b181c7aef8ccd0edee0d3a6afe57eff24fd7c49164cded7c7879aaa9e3", func := "loop.example/robotcell/laws.FnSquareRoot", spec := "fnSquareRoot", inPlace := ["math.sqrt"], apart := false }
def FnSquareRootSaid : Prop := fnSquareRootRow.holds Try.pinned (OpenSpec.ofChange fnSquareRootSpec)

/-- ITS FALSE NEIGHBOUR: 'it returns false'. Refute it at one input. -/
def fnSquareRootWrong : ChangeSpec := { name := "fnSquareRoot", fn := fun _ => fun
  | [d] => { results := [.lit (.bool false)], args := [d] }
  | _ => none }
def FnSquareRootWrongFalsely : Prop := fnSquareRootRow.holds Try.pinned (OpenSpec.ofChange fnSquareRootWrong)

/- THE SECOND FORM. 'bulk': how many values and letters a reading holds, each counted each time it is reached (what is shared counts as often as it is met; a slice's spare places count too). A statement '..UptoSaid' is the law's where the arguments, and the package variables that the reading takes, are together of bulk at most 1048576: NARROWER than '..Said'. Prove '..Said' where nothing that the law and all that it calls make is longer than what came in: it says more and counts as full. Else prove '..UptoSaid'. A law counts once. -/
mutual
def uptoBulk {H : Type} : DataW H → Nat
  | .lit (.string bytes) => bytes.length + 1
  | .lit _ => 1
  | .nil => 1
  | .ptr d => uptoBulk d + 1
  | .slice elems spare => uptoBulkAll elems + uptoBulkAll spare + 1
  | .agg parts => uptoBulkAll parts + 1
  | .iface _ d => uptoBulk d + 1
  | .map entries => uptoBulkEntries entries + 1
  | .held _ => 1
def uptoBulkAll {H : Type} : List (DataW H) → Nat
  | [] => 0
  | d :: r => uptoBulk d + uptoBulkAll r
def uptoBulkEntries {H : Type} : List (Lit × DataW H) → Nat
  | [] => 0
  | x :: r => uptoBulkEntry x + uptoBulkEntries r
def uptoBulkEntry {H : Type} : Lit × DataW H → Nat
  | (.string bytes, d) => bytes.length + uptoBulk d + 1
  | (_, d) => uptoBulk d + 1
 end
def uptoSmall : (H : Type) → List (DataW H) → Bool := fun _ ds => decide (uptoBulkAll ds ≤ 1048576)
def OpenSpec.upto (s : _root_.Go.ChangeSpec) : _root_.Go.OpenSpec := { _root_.Go.OpenSpec.ofChange s with cond := some uptoSmall }

/-- 'laws.FnExactLinePoints', WHERE WHAT IT READS IS OF BULK AT MOST 1048576: true; the input reads as it did. -/
def fnExactLinePointsUptoRow : OpenClaim := { program := "ytmnpengjklghlaa", sum := "4f1009b181c7aef8ccd0edee0d3a6afe57eff24fd7c49164cded7c7879aaa9e3", func := "loop.example/robotcell/laws.FnExactLinePoints", spec := "fnExactLinePoints", apart := false, narrowed := true }
def FnExactLinePointsUptoSaid : Prop := fnExactLinePointsUptoRow.holds Try.pinned (OpenSpec.upto fnExactLinePointsSpec)

/-- 'laws.FnLinePoints', WHERE WHAT IT READS IS OF BULK AT MOST 1048576: true; the input reads as it did. -/
def fnLinePointsUptoRow : OpenClaim := { program := "ytmnpengjklghlaa", sum := "4f1009b181c7aef8ccd0edee0d3a6afe57eff24fd7c49164cded7c7879aaa9e3", func := "loop.example/robotcell/laws.FnLinePoints", spec := "fnLinePoints", apart := false, narrowed := true }
def FnLinePointsUptoSaid : Prop := fnLinePointsUptoRow.holds Try.pinned (OpenSpec.upto fnLinePointsSpec)

/-- 'laws.FnExactSquareRoot', WHERE WHAT IT READS IS OF BULK AT MOST 1048576: true; the input reads as it did. -/
def fnExactSquareRootUptoRow : OpenClaim := { program := "ytmnpengjklghlaa", sum := "4f1009b181c7aef8ccd0edee0d3a6afe57eff24fd7c49164cded7c7879aaa9e3", func := "loop.example/robotcell/laws.FnExactSquareRoot", spec := "fnExactSquareRoot", inPlace := ["math.sqrt"], apart := false, narrowed := true }
def FnExactSquareRootUptoSaid : Prop := fnExactSquareRootUptoRow.holds Try.pinned (OpenSpec.upto fnExactSquareRootSpec)

/-- 'laws.FnSquareRoot', WHERE WHAT IT READS IS OF BULK AT MOST 1048576: true; the input reads as it did. -/
def fnSquareRootUptoRow : OpenClaim := { program := "ytmnpengjklghlaa", sum := "4f1009b181c7aef8ccd0edee0d3a6afe57eff24fd7c49164cded7c7879aaa9e3", func := "loop.example/robotcell/laws.FnSquareRoot", spec := "fnSquareRoot", inPlace := ["math.sqrt"], apart := false, narrowed := true }
def FnSquareRootUptoSaid : Prop := fnSquareRootUptoRow.holds Try.pinned (OpenSpec.upto fnSquareRootSpec)

end Rows
end Go.Proofs.Ytmnpengjklghlaa
