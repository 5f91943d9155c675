/-
  No cell of these rows narrows 'for every input' (looked for: loops, veiled, ifaces, maps, wideKeys, modest, calm, conditions, laid).
  DERIVED. THE GIVEN ROWS OF THIS SEAT. 9 by the template 'for every input the law returns true; each argument reads behind the call as it read before'; 0 by the template 'total and deterministic' (their statements: YtidjmccehemclaaTotals.lean).
  GIVEN WITH THE SEED: the statements are not yours to turn. If you find one false, say at which input.
  Laid BY PROGRAM, IN A SANDBOX (cutbox-rows.mjs): the forced cells as the released guide's own fill.sh prints them over the translation 081570f72015f4ae… (all of the seat's roots in one cut). By AI agents, Wed Nov 11 2026. No macro, syntax, notation, axiom, sorry.
-/
import Derived.Test.YtidjmccehemclaaChecked
import GoSem.Claim
import GoSem.ClaimJoined
import GoSem.ClaimMapViews
import Derived.JoinedTies
import Derived.KernelRfl
namespace Go.Proofs.Ytidjmccehemclaa
/- THE CELL 'sum', in the pinned program and in every row, IS THE sha256 OF THE DUMP (.gsa) THAT YtidjmccehemclaaProg.lean LOADS. Nothing in Lean hashes anything: it is a label: what it is worth is what the hold of that sum in a sandbox is worth. -/
noncomputable def Try.pinned : Pinned := { name := "ytidjmccehemclaa", sum := "081570f72015f4ae112bdaa04386898ea4e7379457f13fd4aa4b32e568d5999c", checked := Try.checked }
namespace Rows
def none {H : Type} : Left H := { results := [], args := [] }

/-- 'laws.FnExactConstants': WHATEVER THE INPUT: true; the input reads as it did. -/
def fnExactConstantsSpec : ChangeSpec := { name := "fnExactConstants", fn := fun _ => fun
  | [] => { results := [.lit (.bool true)], args := [] }
  | _ => none }
def fnExactConstantsRow : OpenClaim := { program := "ytidjmccehemclaa", sum := "081570f72015f4ae112bdaa04386898ea4e7379457f13fd4aa4b32e568d5999c", func := "loop.example/robotcell/laws.FnExactConstants", spec := "fnExactConstants", apart := false }
def FnExactConstantsSaid : Prop := fnExactConstantsRow.holds Try.pinned (OpenSpec.ofChange fnExactConstantsSpec)

/-- ITS FALSE NEIGHBOUR: 'it returns false'. Refute it at one input. -/
def fnExactConstantsWrong : ChangeSpec := { name := "fnExactConstants", fn := fun _ => fun
  | [] => { results := [.lit (.bool false)], args := [] }
  | _ => none }
def FnExactConstantsWrongFalsely : Prop := fnExactConstantsRow.holds Try.pinned (OpenSpec.ofChange fnExactConstantsWrong)

/-- 'laws.FnExactDegrees': WHATEVER THE INPUT: true; the input reads as it did. -/
def fnExactDegreesSpec : ChangeSpec := { name := "fnExactDegrees", fn := fun _ => fun
  | [d] => { results := [.lit (.bool true)], args := [d] }
  | _ => none }
def fnExactDegreesRow : OpenClaim := { program := "ytidjmccehemclaa", sum := "081570f72015f4ae112bdaa04386898ea4e7379457f13fd4aa4b32e568d5999c", func := "loop.example/robotcell/laws.FnExactDegrees", spec := "fnExactDegrees", apart := false }
def FnExactDegreesSaid : Prop := fnExactDegreesRow.holds Try.pinned (OpenSpec.ofChange fnExactDegreesSpec)

/-- ITS FALSE NEIGHBOUR: 'it returns false'. Refute it at one input. -/
def fnExactDegreesWrong : ChangeSpec := { name := "fnExactDegrees", fn := fun _ => fun
  | [d] => { results := [.lit (.bool false)], args := [d] }
  | _ => none }
def FnExactDegreesWrongFalsely : Prop := fnExactDegreesRow.holds Try.pinned (OpenSpec.ofChange fnExactDegreesWrong)

/-- 'laws.FnExactAngleBetween': WHATEVER THE INPUT: true; the input reads as it did. -/
def fnExactAngleBetweenSpec : ChangeSpec := { name := "fnExactAngleBetween", fn := fun _ => fun
  | [d1, d2] => { results := [.lit (.bool true)], args := [d1, d2] }
  | _ => none }
def fnExactAngleBetweenRow : OpenClaim := { program := "ytidjmccehemclaa", sum := "081570f72015f4ae112bdaa04386898ea4e7379457f13fd4aa4b32e568d5999c", func := "loop.example/robotcell/laws.FnExactAngleBetween", spec := "fnExactAngleBetween", apart := false }
def FnExactAngleBetweenSaid : Prop := fnExactAngleBetweenRow.holds Try.pinned (OpenSpec.ofChange fnExactAngleBetweenSpec)

/-- ITS FALSE NEIGHBOUR: 'it returns false'. Refute it at one input. -/
def fnExactAngleBetweenWrong : ChangeSpec := { name := "fnExactAngleBetween", fn := fun _ => fun
  | [d1, d2] => { results := [.lit (.bool false)], args := [d1, d2] }
  | _ => none }
def FnExactAngleBetweenWrongFalsely : Prop := fnExactAngleBetweenRow.holds Try.pinned (OpenSpec.ofChange fnExactAngleBetweenWrong)

/-- 'laws.FnDegrees': WHATEVER THE INPUT: true; the input reads as it did. -/
def fnDegreesSpec : ChangeSpec := { name := "fnDegrees", fn := fun _ => fun
  | [d] => { results := [.lit (.bool true)], args := [d] }
  | _ => none }
def fnDegreesRow : OpenClaim := { program := "ytidjmccehemclaa", sum := "081570f72015f4ae112bdaa04386898ea4e7379457f13fd4aa4b32e568d5999c", func := "loop.example/robotcell/laws.FnDegrees", spec := "fnDegrees", apart := false }
def FnDegreesSaid : Prop := fnDegreesRow.holds Try.pinned (OpenSpec.ofChange fnDegreesSpec)

/-- ITS FALSE NEIGHBOUR: 'it returns false'. Refute it at one input. -/
def fnDegreesWrong : ChangeSpec := { name := "fnDegrees", fn := fun _ => fun
  | [d] => { results := [.lit (.bool false)], args := [d] }
  | _ => none }
def FnDegreesWrongFalsely : Prop := fnDegreesRow.holds Try.pinned (OpenSpec.ofChange fnDegreesWrong)

/-- 'laws.FnExactTurnToward': WHATEVER THE INPUT: true; the input reads as it did. -/
def fnExactTurnTowardSpec : ChangeSpec := { name := "fnExactTurnToward", fn := fun _ => fun
  | [d1, d2, d3] => { results := [.lit (.bool true)], args := [d1, d2, d3] }
  | _ => none }
def fnExactTurnTowardRow : OpenClaim := { program := "ytidjmccehemclaa", sum := "081570f72015f4ae112bdaa04386898ea4e7379457f13fd4aa4b32e568d5999c", func := "loop.example/robotcell/laws.FnExactTurnToward", spec := "fnExactTurnToward", apart := false }
def FnExactTurnTowardSaid : Prop := fnExactTurnTowardRow.holds Try.pinned (OpenSpec.ofChange fnExactTurnTowardSpec)

/-- ITS FALSE NEIGHBOUR: 'it returns false'. Refute it at one input. -/
def fnExactTurnTowardWrong : ChangeSpec := { name := "fnExactTurnToward", fn := fun _ => fun
  | [d1, d2, d3] => { results := [.lit (.bool false)], args := [d1, d2, d3] }
  | _ => none }
def FnExactTurnTowardWrongFalsely : Prop := fnExactTurnTowardRow.holds Try.pinned (OpenSpec.ofChange fnExactTurnTowardWrong)

/-- 'laws.FnAngleBetween': WHATEVER THE INPUT: true; the input reads as it did. -/
def fnAngleBetweenSpec : ChangeSpec := { name := "fnAngleBetween", fn := fun _ => fun
  | [d] => { results := [.lit (.bool true)], args := [d] }
  | _ => none }
def fnAngleBetweenRow : OpenClaim := { program := "ytidjmccehemclaa", sum := "081570f72015f4ae112bdaa04386898ea4e7379457f13fd4aa4b32e568d5999c", func := "loop.example/robotcell/laws.FnAngleBetween", spec := "fnAngleBetween", apart := false }
def FnAngleBetweenSaid : Prop := fnAngleBetweenRow.holds Try.pinned (OpenSpec.ofChange fnAngleBetweenSpec)

/-- ITS FALSE NEIGHBOUR: 'it returns false'. Refute it at one input. -/
def fnAngleBetweenWrong : ChangeSpec := { name := "fnAngleBetween", fn := fun _ => fun
  | [d] => { results := [.lit (.bool false)], args := [d] }
  | _ => none }
def FnAngleBetweenWrongFalsely : Prop := fnAngleBetweenRow.holds Try.pinned (OpenSpec.ofChange fnAngleBetweenWrong)

/-- 'laws.FnAngleTriangle': WHATEVER THE INPUT: true; the input reads as it did. -/
def fnAngleTriangleSpec : ChangeSpec := { name := "fnAngleTriangle", fn := fun _ => fun
  | [d1, d2] => { results := [.lit (.bool true)], args := [d1, d2] }
  | _ => none }
def fnAngleTriangleRow : OpenClaim := { program := "ytidjmccehemclaa", sum := "081570f72015f4ae112bdaa04386898ea4e7379457f13fd4aa4b32e568d5999c", func := "loop.example/robotcell/laws.FnAngleTriangle", spec := "fnAngleTriangle", apart := false }
def FnAngleTriangleSaid : Prop := fnAngleTriangleRow.holds Try.pinned (OpenSpec.ofChange fnAngleTriangleSpec)

/-- ITS FALSE NEIGHBOUR: 'it returns false'. Refute it at one input. -/
def fnAngleTriangleWrong : ChangeSpec := { name := "fnAngleTriangle", fn := fun _ => fun
  | [d1, d2] => { results := [.lit (.bool false)], args := [d1, d2] }
  | _ => none }
def FnAngleTriangleWrongFalsely : Prop := fnAngleTriangleRow.holds Try.pinned (OpenSpec.ofChange fnAngleTriangleWrong)

/-- 'laws.FnTurnSteps': WHATEVER THE INPUT: true; the input reads as it did. -/
def fnTurnStepsSpec : ChangeSpec := { name := "fnTurnSteps", fn := fun _ => fun
  | [d] => { results := [.lit (.bool true)], args := [d] }
  | _ => none }
def fnTurnStepsRow : OpenClaim := { program := "ytidjmccehemclaa", sum := "081570f72015f4ae112bdaa04386898ea4e7379457f13fd4aa4b32e568d5999c", func := "loop.example/robotcell/laws.FnTurnSteps", spec := "fnTurnSteps", apart := false }
def FnTurnStepsSaid : Prop := fnTurnStepsRow.holds Try.pinned (OpenSpec.ofChange fnTurnStepsSpec)

/-- ITS FALSE NEIGHBOUR: 'it returns false'. Refute it at one input. -/
def fnTurnStepsWrong : ChangeSpec := { name := "fnTurnSteps", fn := fun _ => fun
  | [d] => { results := [.lit (.bool false)], args := [d] }
  | _ => none }
def FnTurnStepsWrongFalsely : Prop := fnTurnStepsRow.holds Try.pinned (OpenSpec.ofChange fnTurnStepsWrong)

/-- 'laws.FnTurnToward': WHATEVER THE INPUT: true; the input reads as it did. -/
def fnTurnTowardSpec : ChangeSpec := { name := "fnTurnToward", fn := fun _ => fun
  | [d] => { results := [.lit (.bool true)], args := [d] }
  | _ => none }
def fnTurnTowardRow : OpenClaim := { program := "ytidjmccehemclaa", sum := "081570f72015f4ae112bdaa04386898ea4e7379457f13fd4aa4b32e568d5999c", func := "loop.example/robotcell/laws.FnTurnToward", spec := "fnTurnToward", apart := false }
def FnTurnTowardSaid : Prop := fnTurnTowardRow.holds Try.pinned (OpenSpec.ofChange fnTurnTowardSpec)

/-- ITS FALSE NEIGHBOUR: 'it returns false'. Refute it at one input. -/
def fnTurnTowardWrong : ChangeSpec := { name := "fnTurnToward", fn := fun _ => fun
  | [d] => { results := [.lit (.bool false)], args := [d] }
  | _ => none }
def FnTurnTowardWrongFalsely : Prop := fnTurnTowardRow.holds Try.pinned (OpenSpec.ofChange fnTurnTowardWrong)

/- THE SECOND FORM. 'bulk': how many values and letters a reading holds, each counted each time it is reached (what is shared counts as often as it is met; a slice's spare places count too). A statement '..UptoSaid' is the law's where the arguments, and the package variables that the reading takes, are together of bulk at most 1048576: NARROWER than '..Said'. Prove '..Said' where nothing that the law and all that it calls make is longer than what came in: it says more and counts as full. Else prove '..UptoSaid'. A law counts once. -/
mutual
def uptoBulk {H : Type} : DataW H → Nat
  | .lit (.string bytes) => bytes.length + 1
  | .lit _ => 1
  | .nil => 1
  | .ptr d => uptoBulk d + 1
  | .slice elems spare => uptoBulkAll elems + uptoBulkAll spare + 1
  | .agg parts => uptoBulkAll parts + 1
  | .iface _ d => uptoBulk d + 1
  | .map entries => uptoBulkEntries entries + 1
  | .held _ => 1
def uptoBulkAll {H : Type} : List (DataW H) → Nat
  | [] => 0
  | d :: r => uptoBulk d + uptoBulkAll r
def uptoBulkEntries {H : Type} : List (Lit × DataW H) → Nat
  | [] => 0
  | x :: r => uptoBulkEntry x + uptoBulkEntries r
def uptoBulkEntry {H : Type} : Lit × DataW H → Nat
  | (.string bytes, d) => bytes.length + uptoBulk d + 1
  | (_, d) => uptoBulk d + 1
 end
def uptoSmall : (H : Type) → List (DataW H) → Bool := fun _ ds => decide (uptoBulkAll ds ≤ 1048576)
def OpenSpec.upto (s : _root_.Go.ChangeSpec) : _root_.Go.OpenSpec := { _root_.Go.OpenSpec.ofChange s with cond := some uptoSmall }

/-- 'laws.FnExactConstants', WHERE WHAT IT READS IS OF BULK AT MOST 1048576: true; the input reads as it did. -/
def fnExactConstantsUptoRow : OpenClaim := { program := "ytidjmccehemclaa", sum := "081570f72015f4ae112bdaa04386898ea4e7379457f13fd4aa4b32e568d5999c", func := "loop.example/robotcell/laws.FnExactConstants", spec := "fnExactConstants", apart := false, narrowed := true }
def FnExactConstantsUptoSaid : Prop := fnExactConstantsUptoRow.holds Try.pinned (OpenSpec.upto fnExactConstantsSpec)

/-- 'laws.FnExactDegrees', WHERE WHAT IT READS IS OF BULK AT MOST 1048576: true; the input reads as it did. -/
def fnExactDegreesUptoRow : OpenClaim := { program := "ytidjmccehemclaa", sum := "081570f72015f4ae112bdaa04386898ea4e7379457f13fd4aa4b32e568d5999c", func := "loop.example/robotcell/laws.FnExactDegrees", spec := "fnExactDegrees", apart := false, narrowed := true }
def FnExactDegreesUptoSaid : Prop := fnExactDegreesUptoRow.holds Try.pinned (OpenSpec.upto fnExactDegreesSpec)

/-- 'laws.FnExactAngleBetween', WHERE WHAT IT READS IS OF BULK AT MOST 1048576: true; the input reads as it did. -/
def fnExactAngleBetweenUptoRow : OpenClaim := { program := "ytidjmccehemclaa", sum := "081570f72015f4ae112bdaa04386898ea4e7379457f13fd4aa4b32e568d5999c", func := "loop.example/robotcell/laws.FnExactAngleBetween", spec := "fnExactAngleBetween", apart := false, narrowed := true }
def FnExactAngleBetweenUptoSaid : Prop := fnExactAngleBetweenUptoRow.holds Try.pinned (OpenSpec.upto fnExactAngleBetweenSpec)

/-- 'laws.FnDegrees', WHERE WHAT IT READS IS OF BULK AT MOST 1048576: true; the input reads as it did. -/
def fnDegreesUptoRow : OpenClaim := { program := "ytidjmccehemclaa", sum := "081570f72015f4ae112bdaa04386898ea4e7379457f13fd4aa4b32e568d5999c", func := "loop.example/robotcell/laws.FnDegrees", spec := "fnDegrees", apart := false, narrowed := true }
def FnDegreesUptoSaid : Prop := fnDegreesUptoRow.holds Try.pinned (OpenSpec.upto fnDegreesSpec)

/-- 'laws.FnExactTurnToward', WHERE WHAT IT READS IS OF BULK AT MOST 1048576: true; the input reads as it did. -/
def fnExactTurnTowardUptoRow : OpenClaim := { program := "ytidjmccehemclaa", sum := "081570f72015f4ae112bdaa04386898ea4e7379457f13fd4aa4b32e568d5999c", func := "loop.example/robotcell/laws.FnExactTurnToward", spec := "fnExactTurnToward", apart := false, narrowed := true }
def FnExactTurnTowardUptoSaid : Prop := fnExactTurnTowardUptoRow.holds Try.pinned (OpenSpec.upto fnExactTurnTowardSpec)

/-- 'laws.FnAngleBetween', WHERE WHAT IT READS IS OF BULK AT MOST 1048576: true; the input reads as it did. -/
def fnAngleBetweenUptoRow : OpenClaim := { program := "ytidjmccehemclaa", sum := "081570f72015f4ae112bdaa04386898ea4e7379457f13fd4aa4b32e568d5999c", func := "loop.example/robotcell/laws.FnAngleBetween", spec := "fnAngleBetween", apart := false, narrowed := true }
def FnAngleBetweenUptoSaid : Prop := fnAngleBetweenUptoRow.holds Try.pinned (OpenSpec.upto fnAngleBetweenSpec)

/-- 'laws.FnAngleTriangle', WHERE WHAT IT READS IS OF BULK AT MOST 1048576: true; the input reads as it did. -/
def fnAngleTriangleUptoRow : OpenClaim := { program := "ytidjmccehemclaa", sum := "081570f72015f4ae112bdaa04386898ea4e7379457f13fd4aa4b32e568d5999c", func := "loop.example/robotcell/laws.FnAngleTriangle", spec := "fnAngleTriangle", apart := false, narrowed := true }
def FnAngleTriangleUptoSaid : Prop := fnAngleTriangleUptoRow.holds Try.pinned (OpenSpec.upto fnAngleTriangleSpec)

/-- 'laws.FnTurnSteps', WHERE WHAT IT READS IS OF BULK AT MOST 1048576: true; the input reads as it did. -/
def fnTurnStepsUptoRow : OpenClaim := { program := "ytidjmccehemclaa", sum := "081570f72015f4ae112bdaa04386898ea4e7379457f13fd4aa4b32e568d5999c", func := "loop.example/robotcell/laws.FnTurnSteps", spec := "fnTurnSteps", apart := false, narrowed := true }
def FnTurnStepsUptoSaid : Prop := fnTurnStepsUptoRow.holds Try.pinned (OpenSpec.upto fnTurnStepsSpec)

/-- 'laws.FnTurnToward', WHERE WHAT IT READS IS OF BULK AT MOST 1048576: true; the input reads as it did. -/
def fnTurnTowardUptoRow : OpenClaim := { program := "ytidjmccehemclaa", sum := "081570f72015f4ae112bdaa04386898ea4e7379457f13fd4aa4b32e568d5999c", func := "loop.example/robotcell/laws.FnTurnToward", spec := "fnTurnToward", apart := false, narrowed := true }
def FnTurnTowardUptoSaid : Prop := fnTurnTowardUptoRow.holds Try.pinned (OpenSpec.upto fnTurnTowardSpec)

end Rows
end Go.Proofs.Ytidjmccehemclaa
