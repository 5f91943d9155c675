/- Proves that the law FnExactMidpoint returns true for every input. Conditions: none. -/
import Derived.Test.YtidlmganlcgeaaaRows
import Derived.Test.YtidlmganlcgeaaaMid
import Derived.Deep.RegionHeld3
import Derived.Deep.DeepCutAuto
import Derived.ChangeOld
import Derived.ShutString
import Derived.Lib.SmallJoins
namespace Go.Proofs.Ytidlmganlcgeaaa.fnExactMidpoint
open Go.ChangeShapes Go.WideShapes Go.ChangeAt Go.RowKit
set_option linter.unusedVariables false
theorem walk (x0 y0 : Int) (x1 y1 : Int) (w : World) (u0 : (Lit.int .i64 x0).wf = true) (v0 : (Lit.int .i64 y0).wf = true) (u1 : (Lit.int .i64 x1).wf = true) (v1 : (Lit.int .i64 y1).wf = true) :
    Calls Try.prog 6 #[.agg #[.int .i64 x0, .int .i64 y0], .agg #[.int .i64 x1, .int .i64 y1]] w fun e w' => e = .returned (.bool true) ∧ Below w.heap.size w w' := by
  go_enter Try.func6, Try.ntmps6
  go_wp2_with fail
  have B0 := (Box.new w x0 y0 23).alloc (.cells #[.int .i64 x1, .int .i64 y1] 23)
  have B1 := Box.new (w.alloc (.cells #[.int .i64 x0, .int .i64 y0] 23)) x1 y1 23
  rw [World.size_alloc] at B1
  have hq := Lib.hid (((Below.refl w.heap.size w).alloc (Nat.le_refl _) (.cells #[.int .i64 x0, .int .i64 y0] 23)).alloc (by simp) (.cells #[.int .i64 x1, .int .i64 y1] 23))
  generalize ((w.alloc (.cells #[.int .i64 x0, .int .i64 y0] 23)).alloc (.cells #[.int .i64 x1, .int .i64 y1] 23)) = v at *
  obtain ⟨c1, c2, c3⟩ := B0
  obtain ⟨c4, c5, c6⟩ := B1
  have g1 : ∀ (W : World) (o : Obj) (b k : Nat), b < W.heap.size → (W.alloc o).cell? ⟨b, k, none⟩ = W.cell? ⟨b, k, none⟩ := fun W o b k h => World.cell?_alloc_lt _ _ _ h
  have n1 : v.heap.size ≠ w.heap.size := by omega
  have n2 : v.heap.size ≠ w.heap.size + 1 := by omega
  go_upto_region 1 with fail
  go_cut [5] (fun s5 wx => MidRel w x0 y0 x1 y1 s5 wx)
  case first =>
    go_region_held3 (fun w' => (w'.cell? ⟨w.heap.size, 0, none⟩ = some (.int .i64 x0) ∧ w'.cell? ⟨w.heap.size, 1, none⟩ = some (.int .i64 y0)) ∧ (w'.cell? ⟨w.heap.size + 1, 0, none⟩ = some (.int .i64 x1) ∧ w'.cell? ⟨w.heap.size + 1, 1, none⟩ = some (.int .i64 y1))) (first | exact ⟨⟨c1, c2⟩, ⟨c4, c5⟩⟩ | assumption | go_keep) (first | (go_at_call_of 12 (Value.agg #[Value.int IntKind.i64 x0, Value.int IntKind.i64 y0]); refine (to_point _ _ _).mono ?_; rintro e wa ⟨rfl, b⟩; have hb := Lib.hid b; have s := keep4 b (by assumption); obtain ⟨r1, r2, r3⟩ := rule b; (try simp at r3); (try (have zvwa : v.heap.size < wa.heap.size := (by omega))); (try (have n1 : wa.heap.size ≠ w.heap.size := (by omega))); (try (have n2 : wa.heap.size ≠ w.heap.size + 1 := (by omega))); clear b) | (go_at_call 12; refine (to_point _ _ _).mono ?_; rintro e wb ⟨rfl, b⟩; have hb := Lib.hid b; have s := keep4 b (by assumption); obtain ⟨r1, r2, r3⟩ := rule b; (try simp at r3); (try (have zvwb : v.heap.size < wb.heap.size := (by omega))); (try (have zwawb : wa.heap.size < wb.heap.size := (by omega))); (try (have n1 : wb.heap.size ≠ w.heap.size := (by omega))); (try (have n2 : wb.heap.size ≠ w.heap.size + 1 := (by omega))); clear b) | (go_at_call 17; refine (spec_mid2 _ _ _ _ _).mono ?_; rintro e wc ⟨rfl, b⟩; have hb := Lib.hid b; have s := keep4 b (by assumption); obtain ⟨r1, r2, r3⟩ := rule b; (try simp at r3); (try (have zvwc : v.heap.size < wc.heap.size := (by omega))); (try (have zwawc : wa.heap.size < wc.heap.size := (by omega))); (try (have zwbwc : wb.heap.size < wc.heap.size := (by omega))); (try (have n1 : wc.heap.size ≠ w.heap.size := (by omega))); (try (have n2 : wc.heap.size ≠ w.heap.size + 1 := (by omega))); clear b))
    all_goals
      go_wp2_with fail
      go_meet
      refine MidRel.intro (by assumption) ?_ ?_ ?_
      · go_simp
      · go_simp
      · repeat (first | exact hq.out | refine Below.drew ?_ | refine bel_set ?_ (by omega) _ | refine bel_alloc ?_ _ | refine bel_trans ?_ (by assumption))
  case rest =>
    clear c1 c2 c3 c4 c5 c6 hq n1 n2
    obtain ⟨g, rfl, ⟨c7, c8, c9⟩, ⟨c1, c2, c3⟩, ⟨c4, c5, c6⟩, hq⟩ := hcut
    have hq := Lib.hid hq
    have n1 : wc.heap.size ≠ w.heap.size := by omega
    have n2 : wc.heap.size ≠ w.heap.size + 1 := by omega
    have n3 : wc.heap.size ≠ g := by omega
    go_wp2_with fail
    go_region_held3 (fun w' => (w'.cell? ⟨w.heap.size, 0, none⟩ = some (.int .i64 x0) ∧ w'.cell? ⟨w.heap.size, 1, none⟩ = some (.int .i64 y0)) ∧ (w'.cell? ⟨w.heap.size + 1, 0, none⟩ = some (.int .i64 x1) ∧ w'.cell? ⟨w.heap.size + 1, 1, none⟩ = some (.int .i64 y1)) ∧ (w'.cell? ⟨g, 0, none⟩ = some (.int .i64 (M.midx x0 y0 x1 y1)) ∧ w'.cell? ⟨g, 1, none⟩ = some (.int .i64 (M.midy x0 y0 x1 y1)))) (first | exact ⟨⟨c1, c2⟩, ⟨c4, c5⟩, ⟨c7, c8⟩⟩ | assumption | go_keep) (first | (go_at_call_of 12 (Value.agg #[Value.int IntKind.i64 x0, Value.int IntKind.i64 y0]); refine (to_point _ _ _).mono ?_; rintro e wd ⟨rfl, b⟩; have hb := Lib.hid b; have s := keep6 b (by assumption); obtain ⟨r1, r2, r3⟩ := rule b; (try simp at r3); (try (have zwcwd : wc.heap.size < wd.heap.size := (by omega))); (try (have n1 : wd.heap.size ≠ w.heap.size := (by omega))); (try (have n2 : wd.heap.size ≠ w.heap.size + 1 := (by omega))); (try (have n3 : wd.heap.size ≠ g := (by omega))); clear b) | (go_at_call 12; refine (to_point _ _ _).mono ?_; rintro e we ⟨rfl, b⟩; have hb := Lib.hid b; have s := keep6 b (by assumption); obtain ⟨r1, r2, r3⟩ := rule b; (try simp at r3); (try (have zwcwe : wc.heap.size < we.heap.size := (by omega))); (try (have zwdwe : wd.heap.size < we.heap.size := (by omega))); (try (have n1 : we.heap.size ≠ w.heap.size := (by omega))); (try (have n2 : we.heap.size ≠ w.heap.size + 1 := (by omega))); (try (have n3 : we.heap.size ≠ g := (by omega))); clear b) | (go_at_call 18; refine (impl_mid2 _ _ _ _ _).mono ?_; rintro e wf ⟨rfl, b⟩; have hb := Lib.hid b; have s := keep6 b (by assumption); obtain ⟨r1, r2, r3⟩ := rule b; (try simp at r3); (try (have zwcwf : wc.heap.size < wf.heap.size := (by omega))); (try (have zwdwf : wd.heap.size < wf.heap.size := (by omega))); (try (have zwewf : we.heap.size < wf.heap.size := (by omega))); (try (have n1 : wf.heap.size ≠ w.heap.size := (by omega))); (try (have n2 : wf.heap.size ≠ w.heap.size + 1 := (by omega))); (try (have n3 : wf.heap.size ≠ g := (by omega))); clear b))
    all_goals
      go_wp2_with (go_at_call 19; refine (eq_point _ _ _).mono ?_; rintro e w' ⟨rfl, b⟩; have hb := Lib.hid b; clear b)
      go_ret
      exact ⟨ret_bool (by simp), by repeat (first | exact hq.out | refine Below.drew ?_ | refine bel_set ?_ (by omega) _ | refine bel_alloc ?_ _ | refine bel_trans ?_ (by assumption))⟩
theorem own : ownKnob Try.prog.godebug = none := by kernel_rfl
theorem cellsPt : Try.prog.cellsOf 23 = 2 := by kernel_rfl
set_option maxRecDepth 100000 in
theorem lifted (os : Os) (started : os.Started) (H : Type) (enc : TypeId × Value → H) :
    ReturnsInHanded {} Try.checked os 6 .any (Rows.fnExactMidpointSpec.pre6 enc Try.prog Try.f6 Rows.fnExactMidpointRow.domain false) (Rows.fnExactMidpointSpec.post enc Try.prog Try.f6 false true false false) := by
  refine returnsInHanded_of_change (C := Try.checked) own started (by kernel_rfl) Try.func6
    (ChangeSpec.witness6 (enc := enc) (C := Try.checked) false ⟨#[], #[.agg #[.int .i64 0, .int .i64 0], .agg #[.int .i64 0, .int .i64 0]], []⟩ 8 (by kernel_rfl) (by kernel_rfl) (by kernel_rfl) (by kernel_rfl)) ?_
  intro W base args ds gs before hval0 hW hcnd _
  have hval : ∀ (j : Nat) t v, Try.f6.params[j]? = some t → args[j]? = some v → Value.okWide Try.prog W .any base t v := hval0
  have hW' := hW
  obtain ⟨p, q, hA0, hV, rfl, hfz, hnd⟩ := hW
  have hA : DataW.TrodAll enc Try.prog W 0 (fun _ => true) true Try.f6.params.toList args.toList ds p := hA0
  rw [Try.params6] at hA hval
  obtain ⟨v0_, vs0, d0, ds0, p0, q0, hargs, rfl, rfl, h0, r0⟩ := trodAll_cons hA
  obtain ⟨v1_, vs1, d1, ds1, p1, q1, rfl, rfl, rfl, h1, r1⟩ := trodAll_cons r0
  obtain ⟨rfl, rfl, rfl⟩ := trodAll_nil r1
  obtain rfl : args = #[v0_, v1_] := by cases args; simp_all
  obtain ⟨rfl, rfl⟩ := trodVars_none hV
  obtain ⟨c0, g0, ya0, yb0, m0, rfl, rfl, rfl, hya0, hyb0⟩ := Go.Joins.open_agg2 Try.underlying23 (by kernel_rfl) cellsPt (hval 0 23 v0_ rfl rfl) h0
  obtain ⟨x0, ea0, rfl, u0⟩ := DataW.trod_int Try.underlying3 hya0
  obtain ⟨y0, eb0, rfl, v0⟩ := DataW.trod_int Try.underlying3 hyb0
  simp at ea0 eb0
  subst ea0 eb0
  obtain ⟨c1, g1, ya1, yb1, m1, rfl, rfl, rfl, hya1, hyb1⟩ := Go.Joins.open_agg2 Try.underlying23 (by kernel_rfl) cellsPt (hval 1 23 v1_ rfl rfl) h1
  obtain ⟨x1, ea1, rfl, u1⟩ := DataW.trod_int Try.underlying3 hya1
  obtain ⟨y1, eb1, rfl, v1⟩ := DataW.trod_int Try.underlying3 hyb1
  simp at ea1 eb1
  subst ea1 eb1
  clear hA0 hval0
  simp only [List.append_nil] at hW'
  refine (walk x0 y0 x1 y1 W u0 v0 u1 v1).mono fun e W' ⟨he, bel⟩ => ?_
  subst he
  exact ⟨_, rfl, _, _, _, [], [], [], hW', trodAll_mk1 (shut_bool Try.underlying4 _), (trodAll_cons_mk (Go.Joins.shut_agg2 (y0 := (.lit (.int .i64 x0), [])) (y1 := (.lit (.int .i64 y0), [])) Try.underlying23 (by kernel_rfl) cellsPt ⟨1, by simp [DataW.trod, Try.underlying3, u0]⟩ ⟨1, by simp [DataW.trod, Try.underlying3, v0]⟩) (trodAll_cons_mk (Go.Joins.shut_agg2 (y0 := (.lit (.int .i64 x1), [])) (y1 := (.lit (.int .i64 y1), [])) Try.underlying23 (by kernel_rfl) cellsPt ⟨1, by simp [DataW.trod, Try.underlying3, u1]⟩ ⟨1, by simp [DataW.trod, Try.underlying3, v1]⟩) trodAll_mk0)), rfl, bel.frame _, fun h => by cases h⟩
theorem over : Rows.fnExactMidpointRow.holds Try.pinned (OpenSpec.ofChange Rows.fnExactMidpointSpec) :=
  OpenClaim.holds_of_wide 6 Try.f6 rfl rfl rfl rfl rfl rfl rfl ⟨rfl, rfl, rfl, rfl, rfl⟩ rfl rfl rfl rfl rfl (by kernel_rfl) Try.func6 (by kernel_rfl)
    (of_decide_eq_true (by kernel_rfl)) (by unfold Func.isWrapper; first | (rw [if_pos (by decide +kernel)]; kernel_rfl) | (rw [if_neg (by decide +kernel)]; exact ⟨rfl, rfl⟩))
    (fun os started H enc _ => lifted os started H enc)
theorem proved : Rows.FnExactMidpointSaid := over
#print axioms proved
end Go.Proofs.Ytidlmganlcgeaaa.fnExactMidpoint
