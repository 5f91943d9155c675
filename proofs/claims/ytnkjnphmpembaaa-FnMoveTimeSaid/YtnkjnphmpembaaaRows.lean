/-
  No cell of these rows narrows 'for every input' (looked for: loops, veiled, ifaces, maps, wideKeys, modest, calm, conditions, laid).
  DERIVED. THE GIVEN ROWS OF THIS SEAT. 10 by the template 'for every input the law returns true; each argument reads behind the call as it read before'; 0 by the template 'total and deterministic' (their statements: YtnkjnphmpembaaaTotals.lean).
  GIVEN WITH THE SEED: the statements are not yours to turn. If you find one false, say at which input.
  Laid BY PROGRAM, IN A SANDBOX (cutbox-rows.mjs): the forced cells as the released guide's own fill.sh prints them over the translation 3dc1d46f3225dbee… (all of the seat's roots in one cut). By AI agents, Wed Nov 11 2026. No macro, syntax, notation, axiom, sorry.
-/
import Derived.Test.YtnkjnphmpembaaaChecked
import GoSem.Claim
import GoSem.ClaimJoined
import GoSem.ClaimMapViews
import Derived.JoinedTies
import Derived.KernelRfl
namespace Go.Proofs.Ytnkjnphmpembaaa
/- THE CELL 'sum', in the pinned program and in every row, IS THE sha256 OF THE DUMP (.gsa) THAT YtnkjnphmpembaaaProg.lean LOADS. Nothing in Lean hashes anything: it is a label: what it is worth is what the hold of that sum in a sandbox is worth. -/
noncomputable def Try.pinned : Pinned := { name := "ytnkjnphmpembaaa", sum := "3dc1d46f3225dbee22c0b782cab8e4851dd02523ea99023c1744312362e8ca85", checked := Try.checked }
namespace Rows
def none {H : Type} : Left H := { results := [], args := [] }

/-- 'laws.FnArmValid': WHATEVER THE INPUT: true; the input reads as it did. -/
def fnArmValidSpec : ChangeSpec := { name := "fnArmValid", fn := fun _ => fun
  | [d] => { results := [.lit (.bool true)], args := [d] }
  | _ => none }
def fnArmValidRow : OpenClaim := { program := "ytnkjnphmpembaaa", sum := "3dc1d46f3225dbee22c0b782cab8e4851dd02523ea99023c1744312362e8ca85", func := "loop.example/robotcell/laws.FnArmValid", spec := "fnArmValid", apart := false }
def FnArmValidSaid : Prop := fnArmValidRow.holds Try.pinned (OpenSpec.ofChange fnArmValidSpec)

/-- ITS FALSE NEIGHBOUR: 'it returns false'. Refute it at one input. -/
def fnArmValidWrong : ChangeSpec := { name := "fnArmValid", fn := fun _ => fun
  | [d] => { results := [.lit (.bool false)], args := [d] }
  | _ => none }
def FnArmValidWrongFalsely : Prop := fnArmValidRow.holds Try.pinned (OpenSpec.ofChange fnArmValidWrong)

/-- 'laws.FnExactArmValid': WHATEVER THE INPUT: true; the input reads as it did. -/
def fnExactArmValidSpec : ChangeSpec := { name := "fnExactArmValid", fn := fun _ => fun
  | [d] => { results := [.lit (.bool true)], args := [d] }
  | _ => none }
def fnExactArmValidRow : OpenClaim := { program := "ytnkjnphmpembaaa", sum := "3dc1d46f3225dbee22c0b782cab8e4851dd02523ea99023c1744312362e8ca85", func := "loop.example/robotcell/laws.FnExactArmValid", spec := "fnExactArmValid", apart := false }
def FnExactArmValidSaid : Prop := fnExactArmValidRow.holds Try.pinned (OpenSpec.ofChange fnExactArmValidSpec)

/-- ITS FALSE NEIGHBOUR: 'it returns false'. Refute it at one input. -/
def fnExactArmValidWrong : ChangeSpec := { name := "fnExactArmValid", fn := fun _ => fun
  | [d] => { results := [.lit (.bool false)], args := [d] }
  | _ => none }
def FnExactArmValidWrongFalsely : Prop := fnExactArmValidRow.holds Try.pinned (OpenSpec.ofChange fnExactArmValidWrong)

/-- 'laws.FnExactJointsValid': WHATEVER THE INPUT: true; the input reads as it did. -/
def fnExactJointsValidSpec : ChangeSpec := { name := "fnExactJointsValid", fn := fun _ => fun
  | [d1, d2] => { results := [.lit (.bool true)], args := [d1, d2] }
  | _ => none }
def fnExactJointsValidRow : OpenClaim := { program := "ytnkjnphmpembaaa", sum := "3dc1d46f3225dbee22c0b782cab8e4851dd02523ea99023c1744312362e8ca85", func := "loop.example/robotcell/laws.FnExactJointsValid", spec := "fnExactJointsValid", apart := false }
def FnExactJointsValidSaid : Prop := fnExactJointsValidRow.holds Try.pinned (OpenSpec.ofChange fnExactJointsValidSpec)

/-- ITS FALSE NEIGHBOUR: 'it returns false'. Refute it at one input. -/
def fnExactJointsValidWrong : ChangeSpec := { name := "fnExactJointsValid", fn := fun _ => fun
  | [d1, d2] => { results := [.lit (.bool false)], args := [d1, d2] }
  | _ => none }
def FnExactJointsValidWrongFalsely : Prop := fnExactJointsValidRow.holds Try.pinned (OpenSpec.ofChange fnExactJointsValidWrong)

/-- 'laws.FnExactReachOf': WHATEVER THE INPUT: true; the input reads as it did. -/
def fnExactReachOfSpec : ChangeSpec := { name := "fnExactReachOf", fn := fun _ => fun
  | [d] => { results := [.lit (.bool true)], args := [d] }
  | _ => none }
def fnExactReachOfRow : OpenClaim := { program := "ytnkjnphmpembaaa", sum := "3dc1d46f3225dbee22c0b782cab8e4851dd02523ea99023c1744312362e8ca85", func := "loop.example/robotcell/laws.FnExactReachOf", spec := "fnExactReachOf", apart := false }
def FnExactReachOfSaid : Prop := fnExactReachOfRow.holds Try.pinned (OpenSpec.ofChange fnExactReachOfSpec)

/-- ITS FALSE NEIGHBOUR: 'it returns false'. Refute it at one input. -/
def fnExactReachOfWrong : ChangeSpec := { name := "fnExactReachOf", fn := fun _ => fun
  | [d] => { results := [.lit (.bool false)], args := [d] }
  | _ => none }
def FnExactReachOfWrongFalsely : Prop := fnExactReachOfRow.holds Try.pinned (OpenSpec.ofChange fnExactReachOfWrong)

/-- 'laws.FnReachOf': WHATEVER THE INPUT: true; the input reads as it did. -/
def fnReachOfSpec : ChangeSpec := { name := "fnReachOf", fn := fun _ => fun
  | [d] => { results := [.lit (.bool true)], args := [d] }
  | _ => none }
def fnReachOfRow : OpenClaim := { program := "ytnkjnphmpembaaa", sum := "3dc1d46f3225dbee22c0b782cab8e4851dd02523ea99023c1744312362e8ca85", func := "loop.example/robotcell/laws.FnReachOf", spec := "fnReachOf", apart := false }
def FnReachOfSaid : Prop := fnReachOfRow.holds Try.pinned (OpenSpec.ofChange fnReachOfSpec)

/-- ITS FALSE NEIGHBOUR: 'it returns false'. Refute it at one input. -/
def fnReachOfWrong : ChangeSpec := { name := "fnReachOf", fn := fun _ => fun
  | [d] => { results := [.lit (.bool false)], args := [d] }
  | _ => none }
def FnReachOfWrongFalsely : Prop := fnReachOfRow.holds Try.pinned (OpenSpec.ofChange fnReachOfWrong)

/-- 'laws.FnJointsValid': WHATEVER THE INPUT: true; the input reads as it did. -/
def fnJointsValidSpec : ChangeSpec := { name := "fnJointsValid", fn := fun _ => fun
  | [d] => { results := [.lit (.bool true)], args := [d] }
  | _ => none }
def fnJointsValidRow : OpenClaim := { program := "ytnkjnphmpembaaa", sum := "3dc1d46f3225dbee22c0b782cab8e4851dd02523ea99023c1744312362e8ca85", func := "loop.example/robotcell/laws.FnJointsValid", spec := "fnJointsValid", apart := false }
def FnJointsValidSaid : Prop := fnJointsValidRow.holds Try.pinned (OpenSpec.ofChange fnJointsValidSpec)

/-- ITS FALSE NEIGHBOUR: 'it returns false'. Refute it at one input. -/
def fnJointsValidWrong : ChangeSpec := { name := "fnJointsValid", fn := fun _ => fun
  | [d] => { results := [.lit (.bool false)], args := [d] }
  | _ => none }
def FnJointsValidWrongFalsely : Prop := fnJointsValidRow.holds Try.pinned (OpenSpec.ofChange fnJointsValidWrong)

/-- 'laws.FnExactClampJoints': WHATEVER THE INPUT: true; the input reads as it did. -/
def fnExactClampJointsSpec : ChangeSpec := { name := "fnExactClampJoints", fn := fun _ => fun
  | [d1, d2] => { results := [.lit (.bool true)], args := [d1, d2] }
  | _ => none }
def fnExactClampJointsRow : OpenClaim := { program := "ytnkjnphmpembaaa", sum := "3dc1d46f3225dbee22c0b782cab8e4851dd02523ea99023c1744312362e8ca85", func := "loop.example/robotcell/laws.FnExactClampJoints", spec := "fnExactClampJoints", apart := false }
def FnExactClampJointsSaid : Prop := fnExactClampJointsRow.holds Try.pinned (OpenSpec.ofChange fnExactClampJointsSpec)

/-- ITS FALSE NEIGHBOUR: 'it returns false'. Refute it at one input. -/
def fnExactClampJointsWrong : ChangeSpec := { name := "fnExactClampJoints", fn := fun _ => fun
  | [d1, d2] => { results := [.lit (.bool false)], args := [d1, d2] }
  | _ => none }
def FnExactClampJointsWrongFalsely : Prop := fnExactClampJointsRow.holds Try.pinned (OpenSpec.ofChange fnExactClampJointsWrong)

/-- 'laws.FnClampJoints': WHATEVER THE INPUT: true; the input reads as it did. -/
def fnClampJointsSpec : ChangeSpec := { name := "fnClampJoints", fn := fun _ => fun
  | [d] => { results := [.lit (.bool true)], args := [d] }
  | _ => none }
def fnClampJointsRow : OpenClaim := { program := "ytnkjnphmpembaaa", sum := "3dc1d46f3225dbee22c0b782cab8e4851dd02523ea99023c1744312362e8ca85", func := "loop.example/robotcell/laws.FnClampJoints", spec := "fnClampJoints", apart := false }
def FnClampJointsSaid : Prop := fnClampJointsRow.holds Try.pinned (OpenSpec.ofChange fnClampJointsSpec)

/-- ITS FALSE NEIGHBOUR: 'it returns false'. Refute it at one input. -/
def fnClampJointsWrong : ChangeSpec := { name := "fnClampJoints", fn := fun _ => fun
  | [d] => { results := [.lit (.bool false)], args := [d] }
  | _ => none }
def FnClampJointsWrongFalsely : Prop := fnClampJointsRow.holds Try.pinned (OpenSpec.ofChange fnClampJointsWrong)

/-- 'laws.FnExactMoveTime': WHATEVER THE INPUT: true; the input reads as it did. -/
def fnExactMoveTimeSpec : ChangeSpec := { name := "fnExactMoveTime", fn := fun _ => fun
  | [d1, d2, d3, d4, d5] => { results := [.lit (.bool true)], args := [d1, d2, d3, d4, d5] }
  | _ => none }
def fnExactMoveTimeRow : OpenClaim := { program := "ytnkjnphmpembaaa", sum := "3dc1d46f3225dbee22c0b782cab8e4851dd02523ea99023c1744312362e8ca85", func := "loop.example/robotcell/laws.FnExactMoveTime", spec := "fnExactMoveTime", apart := false }
def FnExactMoveTimeSaid : Prop := fnExactMoveTimeRow.holds Try.pinned (OpenSpec.ofChange fnExactMoveTimeSpec)

/-- ITS FALSE NEIGHBOUR: 'it returns false'. Refute it at one input. -/
def fnExactMoveTimeWrong : ChangeSpec := { name := "fnExactMoveTime", fn := fun _ => fun
  | [d1, d2, d3, d4, d5] => { results := [.lit (.bool false)], args := [d1, d2, d3, d4, d5] }
  | _ => none }
def FnExactMoveTimeWrongFalsely : Prop := fnExactMoveTimeRow.holds Try.pinned (OpenSpec.ofChange fnExactMoveTimeWrong)

/-- 'laws.FnMoveTime': WHATEVER THE INPUT: true; the input reads as it did. -/
def fnMoveTimeSpec : ChangeSpec := { name := "fnMoveTime", fn := fun _ => fun
  | [d] => { results := [.lit (.bool true)], args := [d] }
  | _ => none }
def fnMoveTimeRow : OpenClaim := { program := "ytnkjnphmpembaaa", sum := "3dc1d46f3225dbee22c0b782cab8e4851dd02523ea99023c1744312362e8ca85", func := "loop.example/robotcell/laws.FnMoveTime", spec := "fnMoveTime", apart := false }
def FnMoveTimeSaid : Prop := fnMoveTimeRow.holds Try.pinned (OpenSpec.ofChange fnMoveTimeSpec)

/-- ITS FALSE NEIGHBOUR: 'it returns false'. Refute it at one input. -/
def fnMoveTimeWrong : ChangeSpec := { name := "fnMoveTime", fn := fun _ => fun
  | [d] => { results := [.lit (.bool false)], args := [d] }
  | _ => none }
def FnMoveTimeWrongFalsely : Prop := fnMoveTimeRow.holds Try.pinned (OpenSpec.ofChange fnMoveTimeWrong)

/- THE SECOND FORM. 'bulk': how many values and letters a reading holds, each counted each time it is reached (what is shared counts as often as it is met; a slice's spare places count too). A statement '..UptoSaid' is the law's where the arguments, and the package variables that the reading takes, are together of bulk at most 1048576: NARROWER than '..Said'. Prove '..Said' where nothing that the law and all that it calls make is longer than what came in: it says more and counts as full. Else prove '..UptoSaid'. A law counts once. -/
mutual
def uptoBulk {H : Type} : DataW H → Nat
  | .lit (.string bytes) => bytes.length + 1
  | .lit _ => 1
  | .nil => 1
  | .ptr d => uptoBulk d + 1
  | .slice elems spare => uptoBulkAll elems + uptoBulkAll spare + 1
  | .agg parts => uptoBulkAll parts + 1
  | .iface _ d => uptoBulk d + 1
  | .map entries => uptoBulkEntries entries + 1
  | .held _ => 1
def uptoBulkAll {H : Type} : List (DataW H) → Nat
  | [] => 0
  | d :: r => uptoBulk d + uptoBulkAll r
def uptoBulkEntries {H : Type} : List (Lit × DataW H) → Nat
  | [] => 0
  | x :: r => uptoBulkEntry x + uptoBulkEntries r
def uptoBulkEntry {H : Type} : Lit × DataW H → Nat
  | (.string bytes, d) => bytes.length + uptoBulk d + 1
  | (_, d) => uptoBulk d + 1
 end
def uptoSmall : (H : Type) → List (DataW H) → Bool := fun _ ds => decide (uptoBulkAll ds ≤ 1048576)
def OpenSpec.upto (s : _root_.Go.ChangeSpec) : _root_.Go.OpenSpec := { _root_.Go.OpenSpec.ofChange s with cond := some uptoSmall }

/-- 'laws.FnArmValid', WHERE WHAT IT READS IS OF BULK AT MOST 1048576: true; the input reads as it did. -/
def fnArmValidUptoRow : OpenClaim := { program := "ytnkjnphmpembaaa", sum := "3dc1d46f3225dbee22c0b782cab8e4851dd02523ea99023c1744312362e8ca85", func := "loop.example/robotcell/laws.FnArmValid", spec := "fnArmValid", apart := false, narrowed := true }
def FnArmValidUptoSaid : Prop := fnArmValidUptoRow.holds Try.pinned (OpenSpec.upto fnArmValidSpec)

/-- 'laws.FnExactArmValid', WHERE WHAT IT READS IS OF BULK AT MOST 1048576: true; the input reads as it did. -/
def fnExactArmValidUptoRow : OpenClaim := { program := "ytnkjnphmpembaaa", sum := "3dc1d46f3225dbee22c0b782cab8e4851dd02523ea99023c1744312362e8ca85", func := "loop.example/robotcell/laws.FnExactArmValid", spec := "fnExactArmValid", apart := false, narrowed := true }
def FnExactArmValidUptoSaid : Prop := fnExactArmValidUptoRow.holds Try.pinned (OpenSpec.upto fnExactArmValidSpec)

/-- 'laws.FnExactJointsValid', WHERE WHAT IT READS IS OF BULK AT MOST 1048576: true; the input reads as it did. -/
def fnExactJointsValidUptoRow : OpenClaim := { program := "ytnkjnphmpembaaa", sum := "3dc1d46f3225dbee22c0b782cab8e4851dd02523ea99023c1744312362e8ca85", func := "loop.example/robotcell/laws.FnExactJointsValid", spec := "fnExactJointsValid", apart := false, narrowed := true }
def FnExactJointsValidUptoSaid : Prop := fnExactJointsValidUptoRow.holds Try.pinned (OpenSpec.upto fnExactJointsValidSpec)

/-- 'laws.FnExactReachOf', WHERE WHAT IT READS IS OF BULK AT MOST 1048576: true; the input reads as it did. -/
def fnExactReachOfUptoRow : OpenClaim := { program := "ytnkjnphmpembaaa", sum := "3dc1d46f3225dbee22c0b782cab8e4851dd02523ea99023c1744312362e8ca85", func := "loop.example/robotcell/laws.FnExactReachOf", spec := "fnExactReachOf", apart := false, narrowed := true }
def FnExactReachOfUptoSaid : Prop := fnExactReachOfUptoRow.holds Try.pinned (OpenSpec.upto fnExactReachOfSpec)

/-- 'laws.FnReachOf', WHERE WHAT IT READS IS OF BULK AT MOST 1048576: true; the input reads as it did. -/
def fnReachOfUptoRow : OpenClaim := { program := "ytnkjnphmpembaaa", sum := "3dc1d46f3225dbee22c0b782cab8e4851dd02523ea99023c1744312362e8ca85", func := "loop.example/robotcell/laws.FnReachOf", spec := "fnReachOf", apart := false, narrowed := true }
def FnReachOfUptoSaid : Prop := fnReachOfUptoRow.holds Try.pinned (OpenSpec.upto fnReachOfSpec)

/-- 'laws.FnJointsValid', WHERE WHAT IT READS IS OF BULK AT MOST 1048576: true; the input reads as it did. -/
def fnJointsValidUptoRow : OpenClaim := { program := "ytnkjnphmpembaaa", sum := "3dc1d46f3225dbee22c0b782cab8e4851dd02523ea99023c1744312362e8ca85", func := "loop.example/robotcell/laws.FnJointsValid", spec := "fnJointsValid", apart := false, narrowed := true }
def FnJointsValidUptoSaid : Prop := fnJointsValidUptoRow.holds Try.pinned (OpenSpec.upto fnJointsValidSpec)

/-- 'laws.FnExactClampJoints', WHERE WHAT IT READS IS OF BULK AT MOST 1048576: true; the input reads as it did. -/
def fnExactClampJointsUptoRow : OpenClaim := { program := "ytnkjnphmpembaaa", sum := "3dc1d46f3225dbee22c0b782cab8e4851dd02523ea99023c1744312362e8ca85", func := "loop.example/robotcell/laws.FnExactClampJoints", spec := "fnExactClampJoints", apart := false, narrowed := true }
def FnExactClampJointsUptoSaid : Prop := fnExactClampJointsUptoRow.holds Try.pinned (OpenSpec.upto fnExactClampJointsSpec)

/-- 'laws.FnClampJoints', WHERE WHAT IT READS IS OF BULK AT MOST 1048576: true; the input reads as it did. -/
def fnClampJointsUptoRow : OpenClaim := { program := "ytnkjnphmpembaaa", sum := "3dc1d46f3225dbee22c0b782cab8e4851dd02523ea99023c1744312362e8ca85", func := "loop.example/robotcell/laws.FnClampJoints", spec := "fnClampJoints", apart := false, narrowed := true }
def FnClampJointsUptoSaid : Prop := fnClampJointsUptoRow.holds Try.pinned (OpenSpec.upto fnClampJointsSpec)

/-- 'laws.FnExactMoveTime', WHERE WHAT IT READS IS OF BULK AT MOST 1048576: true; the input reads as it did. -/
def fnExactMoveTimeUptoRow : OpenClaim := { program := "ytnkjnphmpembaaa", sum := "3dc1d46f3225dbee22c0b782cab8e4851dd02523ea99023c1744312362e8ca85", func := "loop.example/robotcell/laws.FnExactMoveTime", spec := "fnExactMoveTime", apart := false, narrowed := true }
def FnExactMoveTimeUptoSaid : Prop := fnExactMoveTimeUptoRow.holds Try.pinned (OpenSpec.upto fnExactMoveTimeSpec)

/-- 'laws.FnMoveTime', WHERE WHAT IT READS IS OF BULK AT MOST 1048576: true; the input reads as it did. -/
def fnMoveTimeUptoRow : OpenClaim := { program := "ytnkjnphmpembaaa", sum := "3dc1d46f3225dbee22c0b782cab8e4851dd02523ea99023c1744312362e8ca85", func := "loop.example/robotcell/laws.FnMoveTime", spec := "fnMoveTime", apart := false, narrowed := true }
def FnMoveTimeUptoSaid : Prop := fnMoveTimeUptoRow.holds Try.pinned (OpenSpec.upto fnMoveTimeSpec)

end Rows
end Go.Proofs.Ytnkjnphmpembaaa
