/- From the row's condition on the laid tables to what the walks ask; the door's own heap meets it. -/
import Derived.Test.YtmainffjekjlnaaDoorRows
import Derived.Test.YtmainffjekjlnaaDoorSin
import Derived.ProofKit
import Derived.LaidMore
import Derived.OpenShut
import Derived.Stop.Joined
import Derived.Stop.LaidErr
import Derived.Lib.LaidTab
namespace Go.Proofs.YtmainffjekjlnaaDoor
open Go.ChangeShapes Go.WideShapes Go.ChangeAt Go.RowKit
set_option linter.unusedVariables false
def laid3 {H : Type} : List (String × DataW H) := [("math._sin", Rows.laid_math_sin), ("math._cos", Rows.laid_math_cos), ("math.mPi4", Rows.laid_math_mPi4)]
theorem gSin : Tryd.prog.globalNamed "math._sin" = some 2 := by kernel_rfl
theorem gCos : Tryd.prog.globalNamed "math._cos" = some 1 := by kernel_rfl
theorem tSin : (Tryd.prog.globals[2]?).map (·.type) = some 91 := by kernel_rfl
theorem tCos : (Tryd.prog.globals[1]?).map (·.type) = some 91 := by kernel_rfl
theorem trod_float {H : Type} {enc : TypeId × Value → H} {P : Program} {w : World} {base : Nat} {sp : Nat → Bool} {held : Bool} {fuel : Nat} {e : TypeId} {cs : List Value} {x : DataW H × List MemPlace}
    (he : P.underlying e = some (.float .f64)) (h : DataW.trod enc P w base sp held fuel e cs = some x) : ∃ b, cs = [.float .f64 b] ∧ x = (.lit (.float .f64 b), []) := by
  cases fuel with
  | zero => simp [DataW.trod] at h
  | succ n =>
    unfold DataW.trod at h
    rw [he] at h
    split at h <;> simp_all
theorem cells_of_floats {H : Type} {enc : TypeId × Value → H} {P : Program} {w : World} {base : Nat} {sp : Nat → Bool} {held : Bool} {fuel : Nat} {t e : TypeId} {n : Nat} {cs : List Value} {zs : List Nat} {p : List MemPlace}
    (ht : P.underlying t = some (.array n e)) (he : P.underlying e = some (.float .f64)) (hce : P.cellsOf e = 1) (hct : P.cellsOf t = n)
    (h : DataW.trod enc P w base sp held fuel t cs = some (.agg (zs.map fun z => .lit (.float .f64 z)), p)) : cs = zs.map fun z => Value.float .f64 z := by
  cases fuel with
  | zero => simp [DataW.trod] at h
  | succ fuel =>
    simp only [DataW.trod, ht, hce, hct, Nat.mul_one] at h
    split at h
    · rename_i hl
      obtain ⟨xs, hm, hx⟩ := Option.map_eq_some_iff.1 h
      have hxs : xs.map (·.1) = zs.map fun z => (DataW.lit (.float .f64 z) : DataW H) := by
        have := congrArg Prod.fst hx
        simpa using this
      have hxl : xs.length = n := by simpa using Lib.mapM_length hm
      have hzl : zs.length = n := by
        have := congrArg List.length hxs
        simp at this
        omega
      apply List.ext_getElem?
      intro i
      by_cases hi : i < n
      · obtain ⟨b, hb, hf⟩ := Lib.mapM_at hm i i (by simp [hi])
        obtain ⟨z, hc, rfl⟩ := trod_float he hf
        have h1 : cs[i]? = some (.float .f64 z) := by
          have := congrArg (·[0]?) hc
          simpa [List.getElem?_take, List.getElem?_drop] using this
        have h2 : (xs.map (·.1))[i]? = some (DataW.lit (.float .f64 z) : DataW H) := by simp [hb]
        rw [hxs] at h2
        simp only [List.getElem?_map, Option.map_eq_some_iff, DataW.lit.injEq, Lit.float.injEq, true_and] at h2
        obtain ⟨z', hz', rfl⟩ := h2
        simp [h1, hz']
      · rw [List.getElem?_eq_none (by omega), List.getElem?_eq_none (by simp; omega)]
    · cases h
theorem of_laid {W : World} (h : laidMetH Tryd.prog laid3 W) : Tables W := by
  rw [MakeChecks.laidMetH_plain _ _ _ (by kernel_rfl)] at h
  obtain ⟨ps, ⟨g0, t0, cs0, f0, p0, q0, hg0, ht0, hv0, hd0, ⟨g1, t1, cs1, f1, p1, q1, hg1, ht1, hv1, hd1, _, _⟩, _⟩, _, _⟩ := h
  obtain rfl := Option.some.inj (gSin.symm.trans hg0)
  obtain rfl := Option.some.inj (gCos.symm.trans hg1)
  obtain rfl := Option.some.inj (tSin.symm.trans ht0)
  obtain rfl := Option.some.inj (tCos.symm.trans ht1)
  have c1 : Tryd.prog.cellsOf 68 = 1 := by kernel_rfl
  have c6 : Tryd.prog.cellsOf 91 = 6 := by kernel_rfl
  have hs := cells_of_floats (zs := [4460209587652500685, 13716528389658582877, 4523617212962785441, 13774824197404483331, 4575957461383575504, 13818544856648471880]) Tryd.underlying91 Tryd.underlying68 c1 c6 hd0
  have hc := cells_of_floats (zs := [13666448263388469915, 4477121864728985349, 13732177093698800582, 4537941361668146421, 13787419979223748497, 4586165620538955083]) Tryd.underlying91 Tryd.underlying68 c1 c6 hd1
  have rs := fun i => World.var?_cell hg0 hv0 i
  have rc := fun i => World.var?_cell hg1 hv1 i
  obtain ⟨l0⟩ := cs0
  obtain ⟨l1⟩ := cs1
  simp only at hs hc
  subst hs hc
  exact ⟨⟨rc 0, rc 1, rc 2, rc 3, rc 4, rc 5⟩, ⟨rs 0, rs 1, rs 2, rs 3, rs 4, rs 5⟩⟩
theorem door_met (os : Os) (args : Array Value) : laidMetH Tryd.prog laid3 ((World.doorLaid Tryd.prog 24 os).forCall (fun _ _ => 0) ⟨#[], args, []⟩).memory :=
  laidMetH_of_parts3 (fuel := 8) (laidMet_of_run' 8 (by kernel_rfl) (by kernel_rfl)) (by kernel_rfl) (by kernel_rfl)
end Go.Proofs.YtmainffjekjlnaaDoor
