/- Contract of the draw of two directions and a step. -/
import Derived.Test.YtidjmccehemclaaDraw
namespace Go.Proofs.Ytidjmccehemclaa
open Go.ChangeShapes Go.WideShapes Go.ChangeAt Go.RowKit
set_option linter.unusedVariables false
set_option maxHeartbeats 2000000 in
theorem draw_tt (a : Option Addr) (len cap : Nat) (zs : List Int) (w : World) (h : IsRow .u8 w a len cap zs) :
    Calls Try.prog 22 #[.slice a len cap] w (Got w ThreeInts) := by
  go_enter Try.func22, Try.ntmps22
  go_wp2_with fail
  refine (open_any a len cap zs _ h).mono ?_
  rintro e w1 ⟨R, rfl, hR, r1, b1⟩
  go_wp2_with fail
  refine (deg_any R _ _ r1 (by omega)).mono ?_
  rintro e w2 ⟨⟨y, rfl⟩, r2, b2⟩
  go_wp2_with fail
  refine (deg_any R _ _ r2 (by omega)).mono ?_
  rintro e w3 ⟨⟨z, rfl⟩, r3, b3⟩
  obtain ⟨t1, t2⟩ := tmod1000 y
  have l3 := r3.lt
  go_wp2_with fail
  refine (pick_any R _ _ _ (r3.alloc _) (by omega) (by omega) (by omega)).mono ?_
  rintro e w4 ⟨v4, p7, p8, rfl, r4, b4⟩
  obtain ⟨x, _, cx⟩ := lit_cell b4 [z, y.tmod 1000 + 180] 3 (alloc1 w3 _) (by omega) (fun _ => True) (by simp) v4 p7 p8
  have B := Lib.hid (((b2.trans b3).alloc _).trans b4)
  clear b2 b3 b4 r1 r2 r3
  have l4 := r4.lt
  go_wp2_with fail
  clear cx l3
  have r4 : Rd w4 R 11 := r4
  have g1 : ∀ (W : World) (o : Obj) (b k : Nat), b < W.heap.size → (W.alloc o).cell? ⟨b, k, none⟩ = W.cell? ⟨b, k, none⟩ := fun W o b k h => World.cell?_alloc_lt _ _ _ h
  have l5 : w4.heap.size ≠ R := by omega
  go_region_with (first
    | (go_at_call_of 27 (Value.int IntKind.i64 181); refine (pick_any R 11 _ _ ?_ (by omega) (by omega) (by omega)).mono ?_; (repeat (first | assumption | refine Rd.alloc ?_ _ | refine Rd.drew ?_)); rintro e w5 ⟨v5, p5, q5, rfl, r5, b5⟩; obtain ⟨f1, f2, f3, f4⟩ := rules b5 r5; have c5 := Lib.hid b5; clear b5; (try simp at f2); (try (have f5 : w4.heap.size < w5.heap.size := (by omega))))
    | (go_at_call_of 27 (Value.int IntKind.i64 9); refine (pick_any R 12 _ _ ?_ (by omega) (by omega) (by omega)).mono ?_; (repeat (first | assumption | refine Rd.alloc ?_ _ | refine Rd.drew ?_)); rintro e w6 ⟨v6, p6, q6, rfl, r6, b6⟩; obtain ⟨f1, f2, f3, f4⟩ := rules b6 r6; have c6 := Lib.hid b6; clear b6; (try simp at f2); (try (have f5 : w5.heap.size < w6.heap.size := (by omega))); (try (have f6 : w4.heap.size < w6.heap.size := (by omega))))
    | (go_at_call_of 27 (Value.int IntKind.i64 6); refine (pick_any R 13 _ _ ?_ (by omega) (by omega) (by omega)).mono ?_; (repeat (first | assumption | refine Rd.alloc ?_ _ | refine Rd.drew ?_)); rintro e w7 ⟨v7, p7, q7, rfl, r7, b7⟩; obtain ⟨f1, f2, f3, f4⟩ := rules b7 r7; have c7 := Lib.hid b7; clear b7; (try simp at f2); (try (have f5 : w6.heap.size < w7.heap.size := (by omega))); (try (have f6 : w5.heap.size < w7.heap.size := (by omega))); (try (have f7 : w4.heap.size < w7.heap.size := (by omega))); obtain ⟨u, hu, eu⟩ := lit_elem [0, 0, 1, 1, 2, 3] (fun x => 0 ≤ x ∧ x < 4) (by decide) v7 p7 q7; obtain ⟨hu1, hu2⟩ := hu; obtain ⟨s, _, es⟩ := lit_elem [v5, v6, -1, 181] (fun _ => True) (by simp) u hu1 hu2; simp only [List.map_cons, List.map_nil] at eu es))
  all_goals
    go_wp2_with fail
    go_ret3
    refine ⟨⟨y, x, s, rfl⟩, got hR b1 ?_⟩
    repeat (first | exact B.out | refine Beside.drew ?_ | refine Beside.alloc ?_ _ | refine Beside.trans ?_ (Hid.out (by assumption)))
end Go.Proofs.Ytidjmccehemclaa
