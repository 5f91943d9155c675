/-
  NARROWER THAN 'FOR EVERY INPUT', by the rows' own cells (each row's printed sentence says how): FnExactSine: laid · FnExactCosine: laid · FnSine: laid · FnCosine: laid · FnExactRotatePoint: laid · FnRotatePoint: laid · FnExactDirectionOf: laid · FnDirectionOf: laid.
  DERIVED. THE GIVEN ROWS OF THIS SEAT. 8 by the template 'for every input the law returns true; each argument reads behind the call as it read before'; 0 by the template 'total and deterministic' (their statements: YtlngkgpbmadmcaaDoorTotals.lean).
  GIVEN WITH THE SEED: the statements are not yours to turn. If you find one false, say at which input.
  Laid BY PROGRAM, IN A SANDBOX (cutbox-rows.mjs): the forced cells as the released guide's own fill.sh prints them over the translation 41d1121746baad58… (all of the seat's roots in one cut). By AI agents, Wed Nov 11 2026. No macro, syntax, notation, axiom, sorry.
-/
import Derived.Test.YtlngkgpbmadmcaaDoorChecked
import GoSem.Claim
import GoSem.ClaimJoined
import GoSem.ClaimMapViews
import Derived.JoinedTies
import Derived.KernelRfl
namespace Go.Proofs.YtlngkgpbmadmcaaDoor
/- THE CELL 'sum', in the pinned program and in every row, IS THE sha256 OF THE DUMP (.gsa) THAT YtlngkgpbmadmcaaDoorProg.lean LOADS. Nothing in Lean hashes anything: it is a label: what it is worth is what the hold of that sum in a sandbox is worth. -/
noncomputable def Tryd.pinned : Pinned := { name := "ytlngkgpbmadmcaadoor", sum := "41d1121746baad5812c6c34f296063aafb860e5c7632e43ae798f683cd1f92cd", checked := Tryd.checked }
namespace Rows
def none {H : Type} : Left H := { results := [], args := [] }

/- WHAT THE LISTED PACKAGE-LEVEL VARIABLES READ AS WHEN THE CALL BEGINS. Each datum BY PROGRAM (the guide's laid-datum.mjs) off the statement by which the dump's own 'gosem.cut.vars' lays the variable. In a bare row this is a premise. The card (YtlngkgpbmadmcaaDoorCards.lean) ties it to the program's text. -/
def laid_math_sin {H : Type} : DataW H := .agg [.lit (.float .f64 4460209587652500685), .lit (.float .f64 13716528389658582877), .lit (.float .f64 4523617212962785441), .lit (.float .f64 13774824197404483331), .lit (.float .f64 4575957461383575504), .lit (.float .f64 13818544856648471880)]
def laid_math_cos {H : Type} : DataW H := .agg [.lit (.float .f64 13666448263388469915), .lit (.float .f64 4477121864728985349), .lit (.float .f64 13732177093698800582), .lit (.float .f64 4537941361668146421), .lit (.float .f64 13787419979223748497), .lit (.float .f64 4586165620538955083)]
def laid_math_mPi4 {H : Type} : DataW H := .agg [.lit (.int .u64 1), .lit (.int .u64 5040379952546458195), .lit (.int .u64 17892431488136887169), .lit (.int .u64 13169980181085364355), .lit (.int .u64 18204331823439776451), .lit (.int .u64 7946843935494350272), .lit (.int .u64 905889640498799673), .lit (.int .u64 18175356263134875261), .lit (.int .u64 15061281708168349961), .lit (.int .u64 15220161563773041794), .lit (.int .u64 8296664548579374057), .lit (.int .u64 4109744767560208502), .lit (.int .u64 4607516669194743839), .lit (.int .u64 16023283104648321598), .lit (.int .u64 15739233654134936430), .lit (.int .u64 11424645774684705882), .lit (.int .u64 16883842788696515318), .lit (.int .u64 8795094592981902804), .lit (.int .u64 15561835991111744016), .lit (.int .u64 12395701187267450711)]

/-- 'laws.FnExactSine': WHATEVER THE INPUT: true; the input reads as it did. -/
def fnExactSineSpec : ChangeSpec := { name := "fnExactSine", fn := fun _ => fun
  | [d] => { results := [.lit (.bool true)], args := [d] }
  | _ => none }
def fnExactSineRow : OpenClaim := { program := "ytlngkgpbmadmcaadoor", sum := "41d1121746baad5812c6c34f296063aafb860e5c7632e43ae798f683cd1f92cd", func := "loop.example/robotcell/laws.FnExactSine", spec := "fnExactSine", inPlace := ["math.Float64bits", "math.Float64frombits", "math/bits.Add64"], named := ["math._cos", "math._sin", "math.mPi4"], apart := false, laid := [("math._sin", laid_math_sin), ("math._cos", laid_math_cos), ("math.mPi4", laid_math_mPi4)] }
def FnExactSineSaid : Prop := fnExactSineRow.holds Tryd.pinned (OpenSpec.ofChange fnExactSineSpec)

/-- ITS FALSE NEIGHBOUR: 'it returns false'. Refute it at one input. -/
def fnExactSineWrong : ChangeSpec := { name := "fnExactSine", fn := fun _ => fun
  | [d] => { results := [.lit (.bool false)], args := [d] }
  | _ => none }
def FnExactSineWrongFalsely : Prop := fnExactSineRow.holds Tryd.pinned (OpenSpec.ofChange fnExactSineWrong)

/-- 'laws.FnExactCosine': WHATEVER THE INPUT: true; the input reads as it did. -/
def fnExactCosineSpec : ChangeSpec := { name := "fnExactCosine", fn := fun _ => fun
  | [d] => { results := [.lit (.bool true)], args := [d] }
  | _ => none }
def fnExactCosineRow : OpenClaim := { program := "ytlngkgpbmadmcaadoor", sum := "41d1121746baad5812c6c34f296063aafb860e5c7632e43ae798f683cd1f92cd", func := "loop.example/robotcell/laws.FnExactCosine", spec := "fnExactCosine", inPlace := ["math.Float64bits", "math.Float64frombits", "math/bits.Add64"], named := ["math._cos", "math._sin", "math.mPi4"], apart := false, laid := [("math._sin", laid_math_sin), ("math._cos", laid_math_cos), ("math.mPi4", laid_math_mPi4)] }
def FnExactCosineSaid : Prop := fnExactCosineRow.holds Tryd.pinned (OpenSpec.ofChange fnExactCosineSpec)

/-- ITS FALSE NEIGHBOUR: 'it returns false'. Refute it at one input. -/
def fnExactCosineWrong : ChangeSpec := { name := "fnExactCosine", fn := fun _ => fun
  | [d] => { results := [.lit (.bool false)], args := [d] }
  | _ => none }
def FnExactCosineWrongFalsely : Prop := fnExactCosineRow.holds Tryd.pinned (OpenSpec.ofChange fnExactCosineWrong)

/-- 'laws.FnSine': WHATEVER THE INPUT: true; the input reads as it did. -/
def fnSineSpec : ChangeSpec := { name := "fnSine", fn := fun _ => fun
  | [d] => { results := [.lit (.bool true)], args := [d] }
  | _ => none }
def fnSineRow : OpenClaim := { program := "ytlngkgpbmadmcaadoor", sum := "41d1121746baad5812c6c34f296063aafb860e5c7632e43ae798f683cd1f92cd", func := "loop.example/robotcell/laws.FnSine", spec := "fnSine", inPlace := ["math.Float64bits", "math.Float64frombits", "math/bits.Add64"], named := ["math._cos", "math._sin", "math.mPi4"], apart := false, laid := [("math._sin", laid_math_sin), ("math._cos", laid_math_cos), ("math.mPi4", laid_math_mPi4)] }
def FnSineSaid : Prop := fnSineRow.holds Tryd.pinned (OpenSpec.ofChange fnSineSpec)

/-- ITS FALSE NEIGHBOUR: 'it returns false'. Refute it at one input. -/
def fnSineWrong : ChangeSpec := { name := "fnSine", fn := fun _ => fun
  | [d] => { results := [.lit (.bool false)], args := [d] }
  | _ => none }
def FnSineWrongFalsely : Prop := fnSineRow.holds Tryd.pinned (OpenSpec.ofChange fnSineWrong)

/-- 'laws.FnCosine': WHATEVER THE INPUT: true; the input reads as it did. -/
def fnCosineSpec : ChangeSpec := { name := "fnCosine", fn := fun _ => fun
  | [d] => { results := [.lit (.bool true)], args := [d] }
  | _ => none }
def fnCosineRow : OpenClaim := { program := "ytlngkgpbmadmcaadoor", sum := "41d1121746baad5812c6c34f296063aafb860e5c7632e43ae798f683cd1f92cd", func := "loop.example/robotcell/laws.FnCosine", spec := "fnCosine", inPlace := ["math.Float64bits", "math.Float64frombits", "math/bits.Add64"], named := ["math._cos", "math._sin", "math.mPi4"], apart := false, laid := [("math._sin", laid_math_sin), ("math._cos", laid_math_cos), ("math.mPi4", laid_math_mPi4)] }
def FnCosineSaid : Prop := fnCosineRow.holds Tryd.pinned (OpenSpec.ofChange fnCosineSpec)

/-- ITS FALSE NEIGHBOUR: 'it returns false'. Refute it at one input. -/
def fnCosineWrong : ChangeSpec := { name := "fnCosine", fn := fun _ => fun
  | [d] => { results := [.lit (.bool false)], args := [d] }
  | _ => none }
def FnCosineWrongFalsely : Prop := fnCosineRow.holds Tryd.pinned (OpenSpec.ofChange fnCosineWrong)

/-- 'laws.FnExactRotatePoint': WHATEVER THE INPUT: true; the input reads as it did. -/
def fnExactRotatePointSpec : ChangeSpec := { name := "fnExactRotatePoint", fn := fun _ => fun
  | [d1, d2] => { results := [.lit (.bool true)], args := [d1, d2] }
  | _ => none }
def fnExactRotatePointRow : OpenClaim := { program := "ytlngkgpbmadmcaadoor", sum := "41d1121746baad5812c6c34f296063aafb860e5c7632e43ae798f683cd1f92cd", func := "loop.example/robotcell/laws.FnExactRotatePoint", spec := "fnExactRotatePoint", inPlace := ["math.Float64bits", "math.Float64frombits", "math/bits.Add64"], named := ["math._cos", "math._sin", "math.mPi4"], apart := false, laid := [("math._sin", laid_math_sin), ("math._cos", laid_math_cos), ("math.mPi4", laid_math_mPi4)] }
def FnExactRotatePointSaid : Prop := fnExactRotatePointRow.holds Tryd.pinned (OpenSpec.ofChange fnExactRotatePointSpec)

/-- ITS FALSE NEIGHBOUR: 'it returns false'. Refute it at one input. -/
def fnExactRotatePointWrong : ChangeSpec := { name := "fnExactRotatePoint", fn := fun _ => fun
  | [d1, d2] => { results := [.lit (.bool false)], args := [d1, d2] }
  | _ => none }
def FnExactRotatePointWrongFalsely : Prop := fnExactRotatePointRow.holds Tryd.pinned (OpenSpec.ofChange fnExactRotatePointWrong)

/-- 'laws.FnRotatePoint': WHATEVER THE INPUT: true; the input reads as it did. -/
def fnRotatePointSpec : ChangeSpec := { name := "fnRotatePoint", fn := fun _ => fun
  | [d] => { results := [.lit (.bool true)], args := [d] }
  | _ => none }
def fnRotatePointRow : OpenClaim := { program := "ytlngkgpbmadmcaadoor", sum := "41d1121746baad5812c6c34f296063aafb860e5c7632e43ae798f683cd1f92cd", func := "loop.example/robotcell/laws.FnRotatePoint", spec := "fnRotatePoint", inPlace := ["math.Float64bits", "math.Float64frombits", "math/bits.Add64", "math.sqrt"], named := ["math._cos", "math._sin", "math.mPi4"], apart := false, laid := [("math._sin", laid_math_sin), ("math._cos", laid_math_cos), ("math.mPi4", laid_math_mPi4)] }
def FnRotatePointSaid : Prop := fnRotatePointRow.holds Tryd.pinned (OpenSpec.ofChange fnRotatePointSpec)

/-- ITS FALSE NEIGHBOUR: 'it returns false'. Refute it at one input. -/
def fnRotatePointWrong : ChangeSpec := { name := "fnRotatePoint", fn := fun _ => fun
  | [d] => { results := [.lit (.bool false)], args := [d] }
  | _ => none }
def FnRotatePointWrongFalsely : Prop := fnRotatePointRow.holds Tryd.pinned (OpenSpec.ofChange fnRotatePointWrong)

/-- 'laws.FnExactDirectionOf': WHATEVER THE INPUT: true; the input reads as it did. -/
def fnExactDirectionOfSpec : ChangeSpec := { name := "fnExactDirectionOf", fn := fun _ => fun
  | [d] => { results := [.lit (.bool true)], args := [d] }
  | _ => none }
def fnExactDirectionOfRow : OpenClaim := { program := "ytlngkgpbmadmcaadoor", sum := "41d1121746baad5812c6c34f296063aafb860e5c7632e43ae798f683cd1f92cd", func := "loop.example/robotcell/laws.FnExactDirectionOf", spec := "fnExactDirectionOf", inPlace := ["math.Float64bits", "math.Float64frombits", "math/bits.Add64"], named := ["math._cos", "math._sin", "math.mPi4"], apart := false, laid := [("math._sin", laid_math_sin), ("math._cos", laid_math_cos), ("math.mPi4", laid_math_mPi4)] }
def FnExactDirectionOfSaid : Prop := fnExactDirectionOfRow.holds Tryd.pinned (OpenSpec.ofChange fnExactDirectionOfSpec)

/-- ITS FALSE NEIGHBOUR: 'it returns false'. Refute it at one input. -/
def fnExactDirectionOfWrong : ChangeSpec := { name := "fnExactDirectionOf", fn := fun _ => fun
  | [d] => { results := [.lit (.bool false)], args := [d] }
  | _ => none }
def FnExactDirectionOfWrongFalsely : Prop := fnExactDirectionOfRow.holds Tryd.pinned (OpenSpec.ofChange fnExactDirectionOfWrong)

/-- 'laws.FnDirectionOf': WHATEVER THE INPUT: true; the input reads as it did. -/
def fnDirectionOfSpec : ChangeSpec := { name := "fnDirectionOf", fn := fun _ => fun
  | [d] => { results := [.lit (.bool true)], args := [d] }
  | _ => none }
def fnDirectionOfRow : OpenClaim := { program := "ytlngkgpbmadmcaadoor", sum := "41d1121746baad5812c6c34f296063aafb860e5c7632e43ae798f683cd1f92cd", func := "loop.example/robotcell/laws.FnDirectionOf", spec := "fnDirectionOf", inPlace := ["math.Float64bits", "math.Float64frombits", "math/bits.Add64"], named := ["math._cos", "math._sin", "math.mPi4"], apart := false, laid := [("math._sin", laid_math_sin), ("math._cos", laid_math_cos), ("math.mPi4", laid_math_mPi4)] }
def FnDirectionOfSaid : Prop := fnDirectionOfRow.holds Tryd.pinned (OpenSpec.ofChange fnDirectionOfSpec)

/-- ITS FALSE NEIGHBOUR: 'it returns false'. Refute it at one input. -/
def fnDirectionOfWrong : ChangeSpec := { name := "fnDirectionOf", fn := fun _ => fun
  | [d] => { results := [.lit (.bool false)], args := [d] }
  | _ => none }
def FnDirectionOfWrongFalsely : Prop := fnDirectionOfRow.holds Tryd.pinned (OpenSpec.ofChange fnDirectionOfWrong)

/- THE SECOND FORM. 'bulk': how many values and letters a reading holds, each counted each time it is reached (what is shared counts as often as it is met; a slice's spare places count too). A statement '..UptoSaid' is the law's where the arguments, and the package variables that the reading takes, are together of bulk at most 1048576: NARROWER than '..Said'. Prove '..Said' where nothing that the law and all that it calls make is longer than what came in: it says more and counts as full. Else prove '..UptoSaid'. A law counts once. -/
mutual
def uptoBulk {H : Type} : DataW H → Nat
  | .lit (.string bytes) => bytes.length + 1
  | .lit _ => 1
  | .nil => 1
  | .ptr d => uptoBulk d + 1
  | .slice elems spare => uptoBulkAll elems + uptoBulkAll spare + 1
  | .agg parts => uptoBulkAll parts + 1
  | .iface _ d => uptoBulk d + 1
  | .map entries => uptoBulkEntries entries + 1
  | .held _ => 1
def uptoBulkAll {H : Type} : List (DataW H) → Nat
  | [] => 0
  | d :: r => uptoBulk d + uptoBulkAll r
def uptoBulkEntries {H : Type} : List (Lit × DataW H) → Nat
  | [] => 0
  | x :: r => uptoBulkEntry x + uptoBulkEntries r
def uptoBulkEntry {H : Type} : Lit × DataW H → Nat
  | (.string bytes, d) => bytes.length + uptoBulk d + 1
  | (_, d) => uptoBulk d + 1
 end
def uptoSmall : (H : Type) → List (DataW H) → Bool := fun _ ds => decide (uptoBulkAll ds ≤ 1048576)
def OpenSpec.upto (s : _root_.Go.ChangeSpec) : _root_.Go.OpenSpec := { _root_.Go.OpenSpec.ofChange s with cond := some uptoSmall }

/-- 'laws.FnExactSine', WHERE WHAT IT READS IS OF BULK AT MOST 1048576: true; the input reads as it did. -/
def fnExactSineUptoRow : OpenClaim := { program := "ytlngkgpbmadmcaadoor", sum := "41d1121746baad5812c6c34f296063aafb860e5c7632e43ae798f683cd1f92cd", func := "loop.example/robotcell/laws.FnExactSine", spec := "fnExactSine", inPlace := ["math.Float64bits", "math.Float64frombits", "math/bits.Add64"], named := ["math._cos", "math._sin", "math.mPi4"], apart := false, laid := [("math._sin", laid_math_sin), ("math._cos", laid_math_cos), ("math.mPi4", laid_math_mPi4)], narrowed := true }
def FnExactSineUptoSaid : Prop := fnExactSineUptoRow.holds Tryd.pinned (OpenSpec.upto fnExactSineSpec)

/-- 'laws.FnExactCosine', WHERE WHAT IT READS IS OF BULK AT MOST 1048576: true; the input reads as it did. -/
def fnExactCosineUptoRow : OpenClaim := { program := "ytlngkgpbmadmcaadoor", sum := "41d1121746baad5812c6c34f296063aafb860e5c7632e43ae798f683cd1f92cd", func := "loop.example/robotcell/laws.FnExactCosine", spec := "fnExactCosine", inPlace := ["math.Float64bits", "math.Float64frombits", "math/bits.Add64"], named := ["math._cos", "math._sin", "math.mPi4"], apart := false, laid := [("math._sin", laid_math_sin), ("math._cos", laid_math_cos), ("math.mPi4", laid_math_mPi4)], narrowed := true }
def FnExactCosineUptoSaid : Prop := fnExactCosineUptoRow.holds Tryd.pinned (OpenSpec.upto fnExactCosineSpec)

/-- 'laws.FnSine', WHERE WHAT IT READS IS OF BULK AT MOST 1048576: true; the input reads as it did. -/
def fnSineUptoRow : OpenClaim := { program := "ytlngkgpbmadmcaadoor", sum := "41d1121746baad5812c6c34f296063aafb860e5c7632e43ae798f683cd1f92cd", func := "loop.example/robotcell/laws.FnSine", spec := "fnSine", inPlace := ["math.Float64bits", "math.Float64frombits", "math/bits.Add64"], named := ["math._cos", "math._sin", "math.mPi4"], apart := false, laid := [("math._sin", laid_math_sin), ("math._cos", laid_math_cos), ("math.mPi4", laid_math_mPi4)], narrowed := true }
def FnSineUptoSaid : Prop := fnSineUptoRow.holds Tryd.pinned (OpenSpec.upto fnSineSpec)

/-- 'laws.FnCosine', WHERE WHAT IT READS IS OF BULK AT MOST 1048576: true; the input reads as it did. -/
def fnCosineUptoRow : OpenClaim := { program := "ytlngkgpbmadmcaadoor", sum := "41d1121746baad5812c6c34f296063aafb860e5c7632e43ae798f683cd1f92cd", func := "loop.example/robotcell/laws.FnCosine", spec := "fnCosine", inPlace := ["math.Float64bits", "math.Float64frombits", "math/bits.Add64"], named := ["math._cos", "math._sin", "math.mPi4"], apart := false, laid := [("math._sin", laid_math_sin), ("math._cos", laid_math_cos), ("math.mPi4", laid_math_mPi4)], narrowed := true }
def FnCosineUptoSaid : Prop := fnCosineUptoRow.holds Tryd.pinned (OpenSpec.upto fnCosineSpec)

/-- 'laws.FnExactRotatePoint', WHERE WHAT IT READS IS OF BULK AT MOST 1048576: true; the input reads as it did. -/
def fnExactRotatePointUptoRow : OpenClaim := { program := "ytlngkgpbmadmcaadoor", sum := "41d1121746baad5812c6c34f296063aafb860e5c7632e43ae798f683cd1f92cd", func := "loop.example/robotcell/laws.FnExactRotatePoint", spec := "fnExactRotatePoint", inPlace := ["math.Float64bits", "math.Float64frombits", "math/bits.Add64"], named := ["math._cos", "math._sin", "math.mPi4"], apart := false, laid := [("math._sin", laid_math_sin), ("math._cos", laid_math_cos), ("math.mPi4", laid_math_mPi4)], narrowed := true }
def FnExactRotatePointUptoSaid : Prop := fnExactRotatePointUptoRow.holds Tryd.pinned (OpenSpec.upto fnExactRotatePointSpec)

/-- 'laws.FnRotatePoint', WHERE WHAT IT READS IS OF BULK AT MOST 1048576: true; the input reads as it did. -/
def fnRotatePointUptoRow : OpenClaim := { program := "ytlngkgpbmadmcaadoor", sum := "41d1121746baad5812c6c34f296063aafb860e5c7632e43ae798f683cd1f92cd", func := "loop.example/robotcell/laws.FnRotatePoint", spec := "fnRotatePoint", inPlace := ["math.Float64bits", "math.Float64frombits", "math/bits.Add64", "math.sqrt"], named := ["math._cos", "math._sin", "math.mPi4"], apart := false, laid := [("math._sin", laid_math_sin), ("math._cos", laid_math_cos), ("math.mPi4", laid_math_mPi4)], narrowed := true }
def FnRotatePointUptoSaid : Prop := fnRotatePointUptoRow.holds Tryd.pinned (OpenSpec.upto fnRotatePointSpec)

/-- 'laws.FnExactDirectionOf', WHERE WHAT IT READS IS OF BULK AT MOST 1048576: true; the input reads as it did. -/
def fnExactDirectionOfUptoRow : OpenClaim := { program := "ytlngkgpbmadmcaadoor", sum := "41d1121746baad5812c6c34f296063aafb860e5c7632e43ae798f683cd1f92cd", func := "loop.example/robotcell/laws.FnExactDirectionOf", spec := "fnExactDirectionOf", inPlace := ["math.Float64bits", "math.Float64frombits", "math/bits.Add64"], named := ["math._cos", "math._sin", "math.mPi4"], apart := false, laid := [("math._sin", laid_math_sin), ("math._cos", laid_math_cos), ("math.mPi4", laid_math_mPi4)], narrowed := true }
def FnExactDirectionOfUptoSaid : Prop := fnExactDirectionOfUptoRow.holds Tryd.pinned (OpenSpec.upto fnExactDirectionOfSpec)

/-- 'laws.FnDirectionOf', WHERE WHAT IT READS IS OF BULK AT MOST 1048576: true; the input reads as it did. -/
def fnDirectionOfUptoRow : OpenClaim := { program := "ytlngkgpbmadmcaadoor", sum := "41d1121746baad5812c6c34f296063aafb860e5c7632e43ae798f683cd1f92cd", func := "loop.example/robotcell/laws.FnDirectionOf", spec := "fnDirectionOf", inPlace := ["math.Float64bits", "math.Float64frombits", "math/bits.Add64"], named := ["math._cos", "math._sin", "math.mPi4"], apart := false, laid := [("math._sin", laid_math_sin), ("math._cos", laid_math_cos), ("math.mPi4", laid_math_mPi4)], narrowed := true }
def FnDirectionOfUptoSaid : Prop := fnDirectionOfUptoRow.holds Tryd.pinned (OpenSpec.upto fnDirectionOfSpec)

end Rows
end Go.Proofs.YtlngkgpbmadmcaaDoor
