/- The walks of the library's sine and of its rounding, each by a plain function on the bits of floats. -/
import Derived.Test.YtmainffjekjlnaaDoorRead
import Derived.Laws.Externs
import Derived.Laws.FloatArith
namespace Go.Proofs.YtmainffjekjlnaaDoor
open Go.ChangeShapes Go.WideShapes Go.ChangeAt Go.RowKit
set_option linter.unusedVariables false
theorem bits_call (b : Nat) (w : World) : (callFunc 82 #[.float .f64 b]).run Tryd.prog w = .ok (.value (.int .u64 (b : Nat))) w := by
  rw [run_callFunc_extern (e := Extern.MathFloatBits.float64bits) Tryd.func82 (by kernel_rfl) (by kernel_rfl) (by kernel_rfl) (by kernel_rfl)]
  rfl
theorem frombits_call (b : Int) (w : World) : (callFunc 83 #[.int .u64 b]).run Tryd.prog w = .ok (.value (.float .f64 b.toNat)) w := by
  rw [run_callFunc_extern (e := Extern.MathFloatBits.float64frombits) Tryd.func83 (by kernel_rfl) (by kernel_rfl) (by kernel_rfl) (by kernel_rfl)]
  rfl
def M.expo (b : Nat) : Int := bits BinOp.and IntKind.u64 ((b : Int) / 4503599627370496) 2047
def M.roundF (b : Nat) : Nat := (bits BinOp.andNot IntKind.u64 (IntKind.u64.wrap ((b : Int) + 2251799813685248 / 2 ^ (M.expo b - 1023).toNat)) (4503599627370495 / 2 ^ (M.expo b - 1023).toNat)).toNat
def M.roundZ (b : Nat) : Nat := (bits BinOp.and IntKind.u64 (b : Int) 9223372036854775808).toNat
set_option maxRecDepth 20000 in
theorem round_walk (b : Nat) (w : World) (h1 : 1023 ≤ M.expo b) (h2 : M.expo b < 1075) :
    Calls Tryd.prog 79 #[.float .f64 b] w fun e w' => e = .returned (.float .f64 (M.roundF b)) ∧ w = w' := by
  have k1 := fun w => bits_call b w
  have k2 := fun b w => frombits_call b w
  unfold M.expo at h1 h2
  go_enter Tryd.func79, Tryd.ntmps79
  go_wp2
  go_ret
  exact ⟨rfl, rfl⟩
set_option maxRecDepth 20000 in
theorem round_zero (b : Nat) (w : World) (h1 : M.expo b < 1022) :
    Calls Tryd.prog 79 #[.float .f64 b] w fun e w' => e = .returned (.float .f64 (M.roundZ b)) ∧ w = w' := by
  have k1 := fun w => bits_call b w
  have k2 := fun b w => frombits_call b w
  unfold M.expo at h1
  have h3 : (bits BinOp.and IntKind.u64 ((b : Int) / 4503599627370496) 2047 == 1022) = false := by simp; omega
  have h4 : bits BinOp.and IntKind.u64 ((b : Int) / 4503599627370496) 2047 < 1023 := by omega
  go_enter Tryd.func79, Tryd.ntmps79
  go_wp2
  go_ret
  exact ⟨rfl, rfl⟩
/-- the laid tables lie where the walk reads them -/
def Tables (w : World) : Prop := (w.cell? ⟨1, 0, none⟩ = some (.float .f64 13666448263388469915) ∧ w.cell? ⟨1, 1, none⟩ = some (.float .f64 4477121864728985349) ∧ w.cell? ⟨1, 2, none⟩ = some (.float .f64 13732177093698800582) ∧ w.cell? ⟨1, 3, none⟩ = some (.float .f64 4537941361668146421) ∧ w.cell? ⟨1, 4, none⟩ = some (.float .f64 13787419979223748497) ∧ w.cell? ⟨1, 5, none⟩ = some (.float .f64 4586165620538955083)) ∧ (w.cell? ⟨2, 0, none⟩ = some (.float .f64 4460209587652500685) ∧ w.cell? ⟨2, 1, none⟩ = some (.float .f64 13716528389658582877) ∧ w.cell? ⟨2, 2, none⟩ = some (.float .f64 4523617212962785441) ∧ w.cell? ⟨2, 3, none⟩ = some (.float .f64 13774824197404483331) ∧ w.cell? ⟨2, 4, none⟩ = some (.float .f64 4575957461383575504) ∧ w.cell? ⟨2, 5, none⟩ = some (.float .f64 13818544856648471880))
theorem Tables.below {w w' : World} {B : Nat} (h : Tables w) (hb : Below B w w') (hB : 2 < B) : Tables w' := by
  obtain ⟨⟨a0, a1, a2, a3, a4, a5⟩, ⟨b0, b1, b2, b3, b4, b5⟩⟩ := h
  refine ⟨⟨?_, ?_, ?_, ?_, ?_, ?_⟩, ⟨?_, ?_, ?_, ?_, ?_, ?_⟩⟩ <;> (rw [hb.cell (by dsimp only; omega)]; assumption)
/-- the steps of the library's sine: below 45 degrees -/
def M.sin_lo (x : Nat) : Option Nat := do
  let r32 ← floatBits .mul .f64 x 4608412980311869571
  let r47 ← floatBits .mul .f64 0 4605249456957292544
  let r48 ← floatBits .sub .f64 x r47
  let r50 ← floatBits .mul .f64 0 4495793288086814720
  let r51 ← floatBits .sub .f64 r48 r50
  let r53 ← floatBits .mul .f64 0 4388835458085048688
  let z ← floatBits .sub .f64 r51 r53
  let zz ← floatBits .mul .f64 z z
  let r108 ← floatBits .mul .f64 z zz
  let r112 ← floatBits .mul .f64 4460209587652500685 zz
  let r115 ← floatBits .add .f64 r112 13716528389658582877
  let r117 ← floatBits .mul .f64 r115 zz
  let r120 ← floatBits .add .f64 r117 4523617212962785441
  let r122 ← floatBits .mul .f64 r120 zz
  let r125 ← floatBits .add .f64 r122 13774824197404483331
  let r127 ← floatBits .mul .f64 r125 zz
  let r130 ← floatBits .add .f64 r127 4575957461383575504
  let r132 ← floatBits .mul .f64 r130 zz
  let r135 ← floatBits .add .f64 r132 13818544856648471880
  let r136 ← floatBits .mul .f64 r108 r135
  let y ← floatBits .add .f64 z r136
  pure y
set_option maxRecDepth 20000 in
set_option maxHeartbeats 2000000 in
theorem sin_lo_walk (x r32 r47 r48 r50 r51 r53 z zz r108 r112 r115 r117 r120 r122 r125 r127 r130 r132 r135 r136 y : Nat) (w : World) (hT : Tables w)
    (o0 : FloatKind.f64.format.order x 0 = some .gt) (ox : FloatKind.f64.format.order x x = some .eq) (oM : FloatKind.f64.format.order x 9218868437227405311 = some .lt) (om : FloatKind.f64.format.order x 18442240474082181119 = some .gt) (ha : bits BinOp.andNot IntKind.u64 (x : Int) 9223372036854775808 = (x : Int)) (oT : FloatKind.f64.format.order x 4737786807993761792 = some .lt)
    (h0 : floatBits .mul .f64 x 4608412980311869571 = some r32) (h1 : floatBits .mul .f64 0 4605249456957292544 = some r47) (h2 : floatBits .sub .f64 x r47 = some r48) (h3 : floatBits .mul .f64 0 4495793288086814720 = some r50) (h4 : floatBits .sub .f64 r48 r50 = some r51) (h5 : floatBits .mul .f64 0 4388835458085048688 = some r53) (h6 : floatBits .sub .f64 r51 r53 = some z) (h7 : floatBits .mul .f64 z z = some zz) (h8 : floatBits .mul .f64 z zz = some r108) (h9 : floatBits .mul .f64 4460209587652500685 zz = some r112) (h10 : floatBits .add .f64 r112 13716528389658582877 = some r115) (h11 : floatBits .mul .f64 r115 zz = some r117) (h12 : floatBits .add .f64 r117 4523617212962785441 = some r120) (h13 : floatBits .mul .f64 r120 zz = some r122) (h14 : floatBits .add .f64 r122 13774824197404483331 = some r125) (h15 : floatBits .mul .f64 r125 zz = some r127) (h16 : floatBits .add .f64 r127 4575957461383575504 = some r130) (h17 : floatBits .mul .f64 r130 zz = some r132) (h18 : floatBits .add .f64 r132 13818544856648471880 = some r135) (h19 : floatBits .mul .f64 r108 r135 = some r136) (h20 : floatBits .add .f64 z r136 = some y) (hj : floatToIntVal .f64 r32 .u64 = some 0) :
    Calls Tryd.prog 85 #[.float .f64 x] w fun e w' => e = .returned (.float .f64 y) ∧ w = w' := by
  have k0 : ∀ w, (binOp .mul 68 (.float .f64 x) (.float .f64 4608412980311869571)).run Tryd.prog w = .ok (.float .f64 r32) w := fun w => run_float_arith w .mul 68 .f64 _ _ _ h0
  have k1 : ∀ w, (binOp .mul 68 (.float .f64 0) (.float .f64 4605249456957292544)).run Tryd.prog w = .ok (.float .f64 r47) w := fun w => run_float_arith w .mul 68 .f64 _ _ _ h1
  have k2 : ∀ w, (binOp .sub 68 (.float .f64 x) (.float .f64 r47)).run Tryd.prog w = .ok (.float .f64 r48) w := fun w => run_float_arith w .sub 68 .f64 _ _ _ h2
  have k3 : ∀ w, (binOp .mul 68 (.float .f64 0) (.float .f64 4495793288086814720)).run Tryd.prog w = .ok (.float .f64 r50) w := fun w => run_float_arith w .mul 68 .f64 _ _ _ h3
  have k4 : ∀ w, (binOp .sub 68 (.float .f64 r48) (.float .f64 r50)).run Tryd.prog w = .ok (.float .f64 r51) w := fun w => run_float_arith w .sub 68 .f64 _ _ _ h4
  have k5 : ∀ w, (binOp .mul 68 (.float .f64 0) (.float .f64 4388835458085048688)).run Tryd.prog w = .ok (.float .f64 r53) w := fun w => run_float_arith w .mul 68 .f64 _ _ _ h5
  have k6 : ∀ w, (binOp .sub 68 (.float .f64 r51) (.float .f64 r53)).run Tryd.prog w = .ok (.float .f64 z) w := fun w => run_float_arith w .sub 68 .f64 _ _ _ h6
  have k7 : ∀ w, (binOp .mul 68 (.float .f64 z) (.float .f64 z)).run Tryd.prog w = .ok (.float .f64 zz) w := fun w => run_float_arith w .mul 68 .f64 _ _ _ h7
  have k8 : ∀ w, (binOp .mul 68 (.float .f64 z) (.float .f64 zz)).run Tryd.prog w = .ok (.float .f64 r108) w := fun w => run_float_arith w .mul 68 .f64 _ _ _ h8
  have k9 : ∀ w, (binOp .mul 68 (.float .f64 4460209587652500685) (.float .f64 zz)).run Tryd.prog w = .ok (.float .f64 r112) w := fun w => run_float_arith w .mul 68 .f64 _ _ _ h9
  have k10 : ∀ w, (binOp .add 68 (.float .f64 r112) (.float .f64 13716528389658582877)).run Tryd.prog w = .ok (.float .f64 r115) w := fun w => run_float_arith w .add 68 .f64 _ _ _ h10
  have k11 : ∀ w, (binOp .mul 68 (.float .f64 r115) (.float .f64 zz)).run Tryd.prog w = .ok (.float .f64 r117) w := fun w => run_float_arith w .mul 68 .f64 _ _ _ h11
  have k12 : ∀ w, (binOp .add 68 (.float .f64 r117) (.float .f64 4523617212962785441)).run Tryd.prog w = .ok (.float .f64 r120) w := fun w => run_float_arith w .add 68 .f64 _ _ _ h12
  have k13 : ∀ w, (binOp .mul 68 (.float .f64 r120) (.float .f64 zz)).run Tryd.prog w = .ok (.float .f64 r122) w := fun w => run_float_arith w .mul 68 .f64 _ _ _ h13
  have k14 : ∀ w, (binOp .add 68 (.float .f64 r122) (.float .f64 13774824197404483331)).run Tryd.prog w = .ok (.float .f64 r125) w := fun w => run_float_arith w .add 68 .f64 _ _ _ h14
  have k15 : ∀ w, (binOp .mul 68 (.float .f64 r125) (.float .f64 zz)).run Tryd.prog w = .ok (.float .f64 r127) w := fun w => run_float_arith w .mul 68 .f64 _ _ _ h15
  have k16 : ∀ w, (binOp .add 68 (.float .f64 r127) (.float .f64 4575957461383575504)).run Tryd.prog w = .ok (.float .f64 r130) w := fun w => run_float_arith w .add 68 .f64 _ _ _ h16
  have k17 : ∀ w, (binOp .mul 68 (.float .f64 r130) (.float .f64 zz)).run Tryd.prog w = .ok (.float .f64 r132) w := fun w => run_float_arith w .mul 68 .f64 _ _ _ h17
  have k18 : ∀ w, (binOp .add 68 (.float .f64 r132) (.float .f64 13818544856648471880)).run Tryd.prog w = .ok (.float .f64 r135) w := fun w => run_float_arith w .add 68 .f64 _ _ _ h18
  have k19 : ∀ w, (binOp .mul 68 (.float .f64 r108) (.float .f64 r135)).run Tryd.prog w = .ok (.float .f64 r136) w := fun w => run_float_arith w .mul 68 .f64 _ _ _ h19
  have k20 : ∀ w, (binOp .add 68 (.float .f64 z) (.float .f64 r136)).run Tryd.prog w = .ok (.float .f64 y) w := fun w => run_float_arith w .add 68 .f64 _ _ _ h20
  have kj : ∀ w, (convert 68 82 (.float .f64 r32)).run Tryd.prog w = .ok (.int .u64 0) w := fun w => run_convert_float_int w 68 82 .f64 .u64 r32 0 (by rw [Tryd.underlying68]; rfl) Tryd.underlying82 hj
  have l1 := fun w => bits_call x w
  have l2 := fun b w => frombits_call b w
  obtain ⟨⟨a0, a1, a2, a3, a4, a5⟩, ⟨c0, c1, c2, c3, c4, c5⟩⟩ := hT
  have f0 : floatOfInt .f64 0 = 0 := by decide +kernel
  have f1 : floatOfInt .f64 1 = 4607182418800017408 := by decide +kernel
  have f2 : floatOfInt .f64 2 = 4611686018427387904 := by decide +kernel
  have f3 : ∀ w, (binOp .add 68 (.float .f64 4607182418800017408) (.float .f64 4607182418800017408)).run Tryd.prog w = .ok (.float .f64 4611686018427387904) w := fun w => run_float_arith w .add 68 .f64 _ _ _ (by decide +kernel)
  have b1 : bits .and .u64 0 1 = 0 := by decide
  have b2 : bits .and .u64 1 1 = 1 := by decide
  have b3 : bits .and .u64 2 1 = 0 := by decide
  have b4 : bits .and .u64 0 7 = 0 := by decide
  have b5 : bits .and .u64 2 7 = 2 := by decide
  clear h0 h1 h2 h3 h4 h5 h6 h7 h8 h9 h10 h11 h12 h13 h14 h15 h16 h17 h18 h19 h20 hj
  go_enter Tryd.func85, Tryd.ntmps85
  go_wp2
  go_ret
  exact ⟨rfl, rfl⟩
/-- the steps of the library's sine: from 45 to 89 -/
def M.sin_mid (x : Nat) : Option Nat := do
  let r32 ← floatBits .mul .f64 x 4608412980311869571
  let r47 ← floatBits .mul .f64 4611686018427387904 4605249456957292544
  let r48 ← floatBits .sub .f64 x r47
  let r50 ← floatBits .mul .f64 4611686018427387904 4495793288086814720
  let r51 ← floatBits .sub .f64 r48 r50
  let r53 ← floatBits .mul .f64 4611686018427387904 4388835458085048688
  let z ← floatBits .sub .f64 r51 r53
  let zz ← floatBits .mul .f64 z z
  let r71 ← floatBits .mul .f64 4602678819172646912 zz
  let r72 ← floatBits .sub .f64 4607182418800017408 r71
  let r75 ← floatBits .mul .f64 zz zz
  let r79 ← floatBits .mul .f64 13666448263388469915 zz
  let r82 ← floatBits .add .f64 r79 4477121864728985349
  let r84 ← floatBits .mul .f64 r82 zz
  let r87 ← floatBits .add .f64 r84 13732177093698800582
  let r89 ← floatBits .mul .f64 r87 zz
  let r92 ← floatBits .add .f64 r89 4537941361668146421
  let r94 ← floatBits .mul .f64 r92 zz
  let r97 ← floatBits .add .f64 r94 13787419979223748497
  let r99 ← floatBits .mul .f64 r97 zz
  let r102 ← floatBits .add .f64 r99 4586165620538955083
  let r103 ← floatBits .mul .f64 r75 r102
  let y ← floatBits .add .f64 r72 r103
  pure y
set_option maxRecDepth 20000 in
set_option maxHeartbeats 2000000 in
theorem sin_mid_walk (x r32 r47 r48 r50 r51 r53 z zz r71 r72 r75 r79 r82 r84 r87 r89 r92 r94 r97 r99 r102 r103 y : Nat) (w : World) (hT : Tables w)
    (o0 : FloatKind.f64.format.order x 0 = some .gt) (ox : FloatKind.f64.format.order x x = some .eq) (oM : FloatKind.f64.format.order x 9218868437227405311 = some .lt) (om : FloatKind.f64.format.order x 18442240474082181119 = some .gt) (ha : bits BinOp.andNot IntKind.u64 (x : Int) 9223372036854775808 = (x : Int)) (oT : FloatKind.f64.format.order x 4737786807993761792 = some .lt)
    (h0 : floatBits .mul .f64 x 4608412980311869571 = some r32) (h1 : floatBits .mul .f64 4611686018427387904 4605249456957292544 = some r47) (h2 : floatBits .sub .f64 x r47 = some r48) (h3 : floatBits .mul .f64 4611686018427387904 4495793288086814720 = some r50) (h4 : floatBits .sub .f64 r48 r50 = some r51) (h5 : floatBits .mul .f64 4611686018427387904 4388835458085048688 = some r53) (h6 : floatBits .sub .f64 r51 r53 = some z) (h7 : floatBits .mul .f64 z z = some zz) (h8 : floatBits .mul .f64 4602678819172646912 zz = some r71) (h9 : floatBits .sub .f64 4607182418800017408 r71 = some r72) (h10 : floatBits .mul .f64 zz zz = some r75) (h11 : floatBits .mul .f64 13666448263388469915 zz = some r79) (h12 : floatBits .add .f64 r79 4477121864728985349 = some r82) (h13 : floatBits .mul .f64 r82 zz = some r84) (h14 : floatBits .add .f64 r84 13732177093698800582 = some r87) (h15 : floatBits .mul .f64 r87 zz = some r89) (h16 : floatBits .add .f64 r89 4537941361668146421 = some r92) (h17 : floatBits .mul .f64 r92 zz = some r94) (h18 : floatBits .add .f64 r94 13787419979223748497 = some r97) (h19 : floatBits .mul .f64 r97 zz = some r99) (h20 : floatBits .add .f64 r99 4586165620538955083 = some r102) (h21 : floatBits .mul .f64 r75 r102 = some r103) (h22 : floatBits .add .f64 r72 r103 = some y) (hj : floatToIntVal .f64 r32 .u64 = some 1) :
    Calls Tryd.prog 85 #[.float .f64 x] w fun e w' => e = .returned (.float .f64 y) ∧ w = w' := by
  have k0 : ∀ w, (binOp .mul 68 (.float .f64 x) (.float .f64 4608412980311869571)).run Tryd.prog w = .ok (.float .f64 r32) w := fun w => run_float_arith w .mul 68 .f64 _ _ _ h0
  have k1 : ∀ w, (binOp .mul 68 (.float .f64 4611686018427387904) (.float .f64 4605249456957292544)).run Tryd.prog w = .ok (.float .f64 r47) w := fun w => run_float_arith w .mul 68 .f64 _ _ _ h1
  have k2 : ∀ w, (binOp .sub 68 (.float .f64 x) (.float .f64 r47)).run Tryd.prog w = .ok (.float .f64 r48) w := fun w => run_float_arith w .sub 68 .f64 _ _ _ h2
  have k3 : ∀ w, (binOp .mul 68 (.float .f64 4611686018427387904) (.float .f64 4495793288086814720)).run Tryd.prog w = .ok (.float .f64 r50) w := fun w => run_float_arith w .mul 68 .f64 _ _ _ h3
  have k4 : ∀ w, (binOp .sub 68 (.float .f64 r48) (.float .f64 r50)).run Tryd.prog w = .ok (.float .f64 r51) w := fun w => run_float_arith w .sub 68 .f64 _ _ _ h4
  have k5 : ∀ w, (binOp .mul 68 (.float .f64 4611686018427387904) (.float .f64 4388835458085048688)).run Tryd.prog w = .ok (.float .f64 r53) w := fun w => run_float_arith w .mul 68 .f64 _ _ _ h5
  have k6 : ∀ w, (binOp .sub 68 (.float .f64 r51) (.float .f64 r53)).run Tryd.prog w = .ok (.float .f64 z) w := fun w => run_float_arith w .sub 68 .f64 _ _ _ h6
  have k7 : ∀ w, (binOp .mul 68 (.float .f64 z) (.float .f64 z)).run Tryd.prog w = .ok (.float .f64 zz) w := fun w => run_float_arith w .mul 68 .f64 _ _ _ h7
  have k8 : ∀ w, (binOp .mul 68 (.float .f64 4602678819172646912) (.float .f64 zz)).run Tryd.prog w = .ok (.float .f64 r71) w := fun w => run_float_arith w .mul 68 .f64 _ _ _ h8
  have k9 : ∀ w, (binOp .sub 68 (.float .f64 4607182418800017408) (.float .f64 r71)).run Tryd.prog w = .ok (.float .f64 r72) w := fun w => run_float_arith w .sub 68 .f64 _ _ _ h9
  have k10 : ∀ w, (binOp .mul 68 (.float .f64 zz) (.float .f64 zz)).run Tryd.prog w = .ok (.float .f64 r75) w := fun w => run_float_arith w .mul 68 .f64 _ _ _ h10
  have k11 : ∀ w, (binOp .mul 68 (.float .f64 13666448263388469915) (.float .f64 zz)).run Tryd.prog w = .ok (.float .f64 r79) w := fun w => run_float_arith w .mul 68 .f64 _ _ _ h11
  have k12 : ∀ w, (binOp .add 68 (.float .f64 r79) (.float .f64 4477121864728985349)).run Tryd.prog w = .ok (.float .f64 r82) w := fun w => run_float_arith w .add 68 .f64 _ _ _ h12
  have k13 : ∀ w, (binOp .mul 68 (.float .f64 r82) (.float .f64 zz)).run Tryd.prog w = .ok (.float .f64 r84) w := fun w => run_float_arith w .mul 68 .f64 _ _ _ h13
  have k14 : ∀ w, (binOp .add 68 (.float .f64 r84) (.float .f64 13732177093698800582)).run Tryd.prog w = .ok (.float .f64 r87) w := fun w => run_float_arith w .add 68 .f64 _ _ _ h14
  have k15 : ∀ w, (binOp .mul 68 (.float .f64 r87) (.float .f64 zz)).run Tryd.prog w = .ok (.float .f64 r89) w := fun w => run_float_arith w .mul 68 .f64 _ _ _ h15
  have k16 : ∀ w, (binOp .add 68 (.float .f64 r89) (.float .f64 4537941361668146421)).run Tryd.prog w = .ok (.float .f64 r92) w := fun w => run_float_arith w .add 68 .f64 _ _ _ h16
  have k17 : ∀ w, (binOp .mul 68 (.float .f64 r92) (.float .f64 zz)).run Tryd.prog w = .ok (.float .f64 r94) w := fun w => run_float_arith w .mul 68 .f64 _ _ _ h17
  have k18 : ∀ w, (binOp .add 68 (.float .f64 r94) (.float .f64 13787419979223748497)).run Tryd.prog w = .ok (.float .f64 r97) w := fun w => run_float_arith w .add 68 .f64 _ _ _ h18
  have k19 : ∀ w, (binOp .mul 68 (.float .f64 r97) (.float .f64 zz)).run Tryd.prog w = .ok (.float .f64 r99) w := fun w => run_float_arith w .mul 68 .f64 _ _ _ h19
  have k20 : ∀ w, (binOp .add 68 (.float .f64 r99) (.float .f64 4586165620538955083)).run Tryd.prog w = .ok (.float .f64 r102) w := fun w => run_float_arith w .add 68 .f64 _ _ _ h20
  have k21 : ∀ w, (binOp .mul 68 (.float .f64 r75) (.float .f64 r102)).run Tryd.prog w = .ok (.float .f64 r103) w := fun w => run_float_arith w .mul 68 .f64 _ _ _ h21
  have k22 : ∀ w, (binOp .add 68 (.float .f64 r72) (.float .f64 r103)).run Tryd.prog w = .ok (.float .f64 y) w := fun w => run_float_arith w .add 68 .f64 _ _ _ h22
  have kj : ∀ w, (convert 68 82 (.float .f64 r32)).run Tryd.prog w = .ok (.int .u64 1) w := fun w => run_convert_float_int w 68 82 .f64 .u64 r32 1 (by rw [Tryd.underlying68]; rfl) Tryd.underlying82 hj
  have l1 := fun w => bits_call x w
  have l2 := fun b w => frombits_call b w
  obtain ⟨⟨a0, a1, a2, a3, a4, a5⟩, ⟨c0, c1, c2, c3, c4, c5⟩⟩ := hT
  have f0 : floatOfInt .f64 0 = 0 := by decide +kernel
  have f1 : floatOfInt .f64 1 = 4607182418800017408 := by decide +kernel
  have f2 : floatOfInt .f64 2 = 4611686018427387904 := by decide +kernel
  have f3 : ∀ w, (binOp .add 68 (.float .f64 4607182418800017408) (.float .f64 4607182418800017408)).run Tryd.prog w = .ok (.float .f64 4611686018427387904) w := fun w => run_float_arith w .add 68 .f64 _ _ _ (by decide +kernel)
  have b1 : bits .and .u64 0 1 = 0 := by decide
  have b2 : bits .and .u64 1 1 = 1 := by decide
  have b3 : bits .and .u64 2 1 = 0 := by decide
  have b4 : bits .and .u64 0 7 = 0 := by decide
  have b5 : bits .and .u64 2 7 = 2 := by decide
  clear h0 h1 h2 h3 h4 h5 h6 h7 h8 h9 h10 h11 h12 h13 h14 h15 h16 h17 h18 h19 h20 h21 h22 hj
  go_enter Tryd.func85, Tryd.ntmps85
  go_wp2
  go_ret
  exact ⟨rfl, rfl⟩
/-- the steps of the library's sine: at 90 -/
def M.sin_hi (x : Nat) : Option Nat := do
  let r32 ← floatBits .mul .f64 x 4608412980311869571
  let r47 ← floatBits .mul .f64 4611686018427387904 4605249456957292544
  let r48 ← floatBits .sub .f64 x r47
  let r50 ← floatBits .mul .f64 4611686018427387904 4495793288086814720
  let r51 ← floatBits .sub .f64 r48 r50
  let r53 ← floatBits .mul .f64 4611686018427387904 4388835458085048688
  let z ← floatBits .sub .f64 r51 r53
  let zz ← floatBits .mul .f64 z z
  let r71 ← floatBits .mul .f64 4602678819172646912 zz
  let r72 ← floatBits .sub .f64 4607182418800017408 r71
  let r75 ← floatBits .mul .f64 zz zz
  let r79 ← floatBits .mul .f64 13666448263388469915 zz
  let r82 ← floatBits .add .f64 r79 4477121864728985349
  let r84 ← floatBits .mul .f64 r82 zz
  let r87 ← floatBits .add .f64 r84 13732177093698800582
  let r89 ← floatBits .mul .f64 r87 zz
  let r92 ← floatBits .add .f64 r89 4537941361668146421
  let r94 ← floatBits .mul .f64 r92 zz
  let r97 ← floatBits .add .f64 r94 13787419979223748497
  let r99 ← floatBits .mul .f64 r97 zz
  let r102 ← floatBits .add .f64 r99 4586165620538955083
  let r103 ← floatBits .mul .f64 r75 r102
  let y ← floatBits .add .f64 r72 r103
  pure y
set_option maxRecDepth 20000 in
set_option maxHeartbeats 2000000 in
theorem sin_hi_walk (x r32 r47 r48 r50 r51 r53 z zz r71 r72 r75 r79 r82 r84 r87 r89 r92 r94 r97 r99 r102 r103 y : Nat) (w : World) (hT : Tables w)
    (o0 : FloatKind.f64.format.order x 0 = some .gt) (ox : FloatKind.f64.format.order x x = some .eq) (oM : FloatKind.f64.format.order x 9218868437227405311 = some .lt) (om : FloatKind.f64.format.order x 18442240474082181119 = some .gt) (ha : bits BinOp.andNot IntKind.u64 (x : Int) 9223372036854775808 = (x : Int)) (oT : FloatKind.f64.format.order x 4737786807993761792 = some .lt)
    (h0 : floatBits .mul .f64 x 4608412980311869571 = some r32) (h1 : floatBits .mul .f64 4611686018427387904 4605249456957292544 = some r47) (h2 : floatBits .sub .f64 x r47 = some r48) (h3 : floatBits .mul .f64 4611686018427387904 4495793288086814720 = some r50) (h4 : floatBits .sub .f64 r48 r50 = some r51) (h5 : floatBits .mul .f64 4611686018427387904 4388835458085048688 = some r53) (h6 : floatBits .sub .f64 r51 r53 = some z) (h7 : floatBits .mul .f64 z z = some zz) (h8 : floatBits .mul .f64 4602678819172646912 zz = some r71) (h9 : floatBits .sub .f64 4607182418800017408 r71 = some r72) (h10 : floatBits .mul .f64 zz zz = some r75) (h11 : floatBits .mul .f64 13666448263388469915 zz = some r79) (h12 : floatBits .add .f64 r79 4477121864728985349 = some r82) (h13 : floatBits .mul .f64 r82 zz = some r84) (h14 : floatBits .add .f64 r84 13732177093698800582 = some r87) (h15 : floatBits .mul .f64 r87 zz = some r89) (h16 : floatBits .add .f64 r89 4537941361668146421 = some r92) (h17 : floatBits .mul .f64 r92 zz = some r94) (h18 : floatBits .add .f64 r94 13787419979223748497 = some r97) (h19 : floatBits .mul .f64 r97 zz = some r99) (h20 : floatBits .add .f64 r99 4586165620538955083 = some r102) (h21 : floatBits .mul .f64 r75 r102 = some r103) (h22 : floatBits .add .f64 r72 r103 = some y) (hj : floatToIntVal .f64 r32 .u64 = some 2) :
    Calls Tryd.prog 85 #[.float .f64 x] w fun e w' => e = .returned (.float .f64 y) ∧ w = w' := by
  have k0 : ∀ w, (binOp .mul 68 (.float .f64 x) (.float .f64 4608412980311869571)).run Tryd.prog w = .ok (.float .f64 r32) w := fun w => run_float_arith w .mul 68 .f64 _ _ _ h0
  have k1 : ∀ w, (binOp .mul 68 (.float .f64 4611686018427387904) (.float .f64 4605249456957292544)).run Tryd.prog w = .ok (.float .f64 r47) w := fun w => run_float_arith w .mul 68 .f64 _ _ _ h1
  have k2 : ∀ w, (binOp .sub 68 (.float .f64 x) (.float .f64 r47)).run Tryd.prog w = .ok (.float .f64 r48) w := fun w => run_float_arith w .sub 68 .f64 _ _ _ h2
  have k3 : ∀ w, (binOp .mul 68 (.float .f64 4611686018427387904) (.float .f64 4495793288086814720)).run Tryd.prog w = .ok (.float .f64 r50) w := fun w => run_float_arith w .mul 68 .f64 _ _ _ h3
  have k4 : ∀ w, (binOp .sub 68 (.float .f64 r48) (.float .f64 r50)).run Tryd.prog w = .ok (.float .f64 r51) w := fun w => run_float_arith w .sub 68 .f64 _ _ _ h4
  have k5 : ∀ w, (binOp .mul 68 (.float .f64 4611686018427387904) (.float .f64 4388835458085048688)).run Tryd.prog w = .ok (.float .f64 r53) w := fun w => run_float_arith w .mul 68 .f64 _ _ _ h5
  have k6 : ∀ w, (binOp .sub 68 (.float .f64 r51) (.float .f64 r53)).run Tryd.prog w = .ok (.float .f64 z) w := fun w => run_float_arith w .sub 68 .f64 _ _ _ h6
  have k7 : ∀ w, (binOp .mul 68 (.float .f64 z) (.float .f64 z)).run Tryd.prog w = .ok (.float .f64 zz) w := fun w => run_float_arith w .mul 68 .f64 _ _ _ h7
  have k8 : ∀ w, (binOp .mul 68 (.float .f64 4602678819172646912) (.float .f64 zz)).run Tryd.prog w = .ok (.float .f64 r71) w := fun w => run_float_arith w .mul 68 .f64 _ _ _ h8
  have k9 : ∀ w, (binOp .sub 68 (.float .f64 4607182418800017408) (.float .f64 r71)).run Tryd.prog w = .ok (.float .f64 r72) w := fun w => run_float_arith w .sub 68 .f64 _ _ _ h9
  have k10 : ∀ w, (binOp .mul 68 (.float .f64 zz) (.float .f64 zz)).run Tryd.prog w = .ok (.float .f64 r75) w := fun w => run_float_arith w .mul 68 .f64 _ _ _ h10
  have k11 : ∀ w, (binOp .mul 68 (.float .f64 13666448263388469915) (.float .f64 zz)).run Tryd.prog w = .ok (.float .f64 r79) w := fun w => run_float_arith w .mul 68 .f64 _ _ _ h11
  have k12 : ∀ w, (binOp .add 68 (.float .f64 r79) (.float .f64 4477121864728985349)).run Tryd.prog w = .ok (.float .f64 r82) w := fun w => run_float_arith w .add 68 .f64 _ _ _ h12
  have k13 : ∀ w, (binOp .mul 68 (.float .f64 r82) (.float .f64 zz)).run Tryd.prog w = .ok (.float .f64 r84) w := fun w => run_float_arith w .mul 68 .f64 _ _ _ h13
  have k14 : ∀ w, (binOp .add 68 (.float .f64 r84) (.float .f64 13732177093698800582)).run Tryd.prog w = .ok (.float .f64 r87) w := fun w => run_float_arith w .add 68 .f64 _ _ _ h14
  have k15 : ∀ w, (binOp .mul 68 (.float .f64 r87) (.float .f64 zz)).run Tryd.prog w = .ok (.float .f64 r89) w := fun w => run_float_arith w .mul 68 .f64 _ _ _ h15
  have k16 : ∀ w, (binOp .add 68 (.float .f64 r89) (.float .f64 4537941361668146421)).run Tryd.prog w = .ok (.float .f64 r92) w := fun w => run_float_arith w .add 68 .f64 _ _ _ h16
  have k17 : ∀ w, (binOp .mul 68 (.float .f64 r92) (.float .f64 zz)).run Tryd.prog w = .ok (.float .f64 r94) w := fun w => run_float_arith w .mul 68 .f64 _ _ _ h17
  have k18 : ∀ w, (binOp .add 68 (.float .f64 r94) (.float .f64 13787419979223748497)).run Tryd.prog w = .ok (.float .f64 r97) w := fun w => run_float_arith w .add 68 .f64 _ _ _ h18
  have k19 : ∀ w, (binOp .mul 68 (.float .f64 r97) (.float .f64 zz)).run Tryd.prog w = .ok (.float .f64 r99) w := fun w => run_float_arith w .mul 68 .f64 _ _ _ h19
  have k20 : ∀ w, (binOp .add 68 (.float .f64 r99) (.float .f64 4586165620538955083)).run Tryd.prog w = .ok (.float .f64 r102) w := fun w => run_float_arith w .add 68 .f64 _ _ _ h20
  have k21 : ∀ w, (binOp .mul 68 (.float .f64 r75) (.float .f64 r102)).run Tryd.prog w = .ok (.float .f64 r103) w := fun w => run_float_arith w .mul 68 .f64 _ _ _ h21
  have k22 : ∀ w, (binOp .add 68 (.float .f64 r72) (.float .f64 r103)).run Tryd.prog w = .ok (.float .f64 y) w := fun w => run_float_arith w .add 68 .f64 _ _ _ h22
  have kj : ∀ w, (convert 68 82 (.float .f64 r32)).run Tryd.prog w = .ok (.int .u64 2) w := fun w => run_convert_float_int w 68 82 .f64 .u64 r32 2 (by rw [Tryd.underlying68]; rfl) Tryd.underlying82 hj
  have l1 := fun w => bits_call x w
  have l2 := fun b w => frombits_call b w
  obtain ⟨⟨a0, a1, a2, a3, a4, a5⟩, ⟨c0, c1, c2, c3, c4, c5⟩⟩ := hT
  have f0 : floatOfInt .f64 0 = 0 := by decide +kernel
  have f1 : floatOfInt .f64 1 = 4607182418800017408 := by decide +kernel
  have f2 : floatOfInt .f64 2 = 4611686018427387904 := by decide +kernel
  have f3 : ∀ w, (binOp .add 68 (.float .f64 4607182418800017408) (.float .f64 4607182418800017408)).run Tryd.prog w = .ok (.float .f64 4611686018427387904) w := fun w => run_float_arith w .add 68 .f64 _ _ _ (by decide +kernel)
  have b1 : bits .and .u64 0 1 = 0 := by decide
  have b2 : bits .and .u64 1 1 = 1 := by decide
  have b3 : bits .and .u64 2 1 = 0 := by decide
  have b4 : bits .and .u64 0 7 = 0 := by decide
  have b5 : bits .and .u64 2 7 = 2 := by decide
  clear h0 h1 h2 h3 h4 h5 h6 h7 h8 h9 h10 h11 h12 h13 h14 h15 h16 h17 h18 h19 h20 h21 h22 hj
  go_enter Tryd.func85, Tryd.ntmps85
  go_wp2
  go_ret
  exact ⟨rfl, rfl⟩
end Go.Proofs.YtmainffjekjlnaaDoor
