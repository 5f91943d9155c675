/- Contracts of the draws of profiles. -/
import Derived.Test.YtnkjnphmpembaaaOdd
namespace Go.Proofs.Ytnkjnphmpembaaa
open Go.ChangeShapes Go.WideShapes Go.ChangeAt Go.RowKit
set_option linter.unusedVariables false
def InRange (lo hi : Int) (e : Ending) : Prop := ∃ x : Int, e = .returned (.int .i64 x) ∧ lo ≤ x ∧ x ≤ hi
theorem rise_any (R m : Nat) (n : Int) (w : World) (h : Rd w R m) (hm : m ≤ 900000) (hn : 1 ≤ n) (hn2 : n ≤ 1000000) :
    Calls Try.prog 61 #[.pointer (some ⟨R, 0, none⟩), .int .i64 n] w (Drew w R (m + 3) (InRange 0 51)) := by
  go_enter Try.func61, Try.ntmps61
  go_wp2_with fail
  refine (odd_any R m n _ h (by omega) hn hn2).mono ?_
  rintro e w1 ⟨⟨b, rfl⟩, r1, b1⟩
  have l1 := r1.lt
  cases b
  · go_wp2_with fail
    refine (pick_any R _ _ _ (r1.alloc _) (by omega) (by omega) (by omega)).mono ?_
    rintro e w2 ⟨v2, p1, p2, rfl, r2, b2⟩
    obtain ⟨x, hx, cx⟩ := lit_cell b2 [4, 50] 3 (alloc1 w1 _) (by omega) (fun x => 4 ≤ x ∧ x ≤ 50) (by decide) v2 p1 p2
    obtain ⟨hx1, hx2⟩ := hx
    have B := Lib.hid ((b1.alloc _).trans b2)
    clear b1 b2 r1
    go_wp2_with fail
    refine (pick_any R _ _ _ r2 (by omega) (by omega) (by omega)).mono ?_
    rintro e w3 ⟨v3, p3, p4, rfl, r3, b3⟩
    go_wp2_with fail
    go_ret
    exact ⟨⟨_, rfl, by omega, by omega⟩, r3, B.out.trans b3⟩
  · go_wp2_with fail
    refine (pick_any R _ _ _ (r1.alloc _) (by omega) (by omega) (by omega)).mono ?_
    rintro e w2 ⟨v2, p1, p2, rfl, r2, b2⟩
    obtain ⟨x, hx, cx⟩ := lit_cell b2 [0, 51] 3 (alloc1 w1 _) (by omega) (fun x => 0 ≤ x ∧ x ≤ 51) (by decide) v2 p1 p2
    obtain ⟨hx1, hx2⟩ := hx
    have B := Lib.hid ((b1.alloc _).trans b2)
    clear b1 b2 r1
    go_wp2_with fail
    go_ret
    exact ⟨⟨x, rfl, hx1, hx2⟩, r2.mono (by omega), B.out⟩
theorem top_any (R m : Nat) (n : Int) (w : World) (h : Rd w R m) (hm : m ≤ 900000) (hn : 1 ≤ n) (hn2 : n ≤ 1000000) :
    Calls Try.prog 60 #[.pointer (some ⟨R, 0, none⟩), .int .i64 n] w (Drew w R (m + 3) (InRange 0 201)) := by
  go_enter Try.func60, Try.ntmps60
  go_wp2_with fail
  refine (odd_any R m n _ h (by omega) hn hn2).mono ?_
  rintro e w1 ⟨⟨b, rfl⟩, r1, b1⟩
  have l1 := r1.lt
  cases b
  · go_wp2_with fail
    refine (pick_any R _ _ _ (r1.alloc _) (by omega) (by omega) (by omega)).mono ?_
    rintro e w2 ⟨v2, p1, p2, rfl, r2, b2⟩
    obtain ⟨x, hx, cx⟩ := lit_cell b2 [9, 200] 3 (alloc1 w1 _) (by omega) (fun x => 9 ≤ x ∧ x ≤ 200) (by decide) v2 p1 p2
    obtain ⟨hx1, hx2⟩ := hx
    have B := Lib.hid ((b1.alloc _).trans b2)
    clear b1 b2 r1
    go_wp2_with fail
    refine (pick_any R _ _ _ r2 (by omega) (by omega) (by omega)).mono ?_
    rintro e w3 ⟨v3, p3, p4, rfl, r3, b3⟩
    go_wp2_with fail
    go_ret
    exact ⟨⟨_, rfl, by omega, by omega⟩, r3, B.out.trans b3⟩
  · go_wp2_with fail
    refine (pick_any R _ _ _ (r1.alloc _) (by omega) (by omega) (by omega)).mono ?_
    rintro e w2 ⟨v2, p1, p2, rfl, r2, b2⟩
    obtain ⟨x, hx, cx⟩ := lit_cell b2 [0, 201] 3 (alloc1 w1 _) (by omega) (fun x => 0 ≤ x ∧ x ≤ 201) (by decide) v2 p1 p2
    obtain ⟨hx1, hx2⟩ := hx
    have B := Lib.hid ((b1.alloc _).trans b2)
    clear b1 b2 r1
    go_wp2_with fail
    go_ret
    exact ⟨⟨x, rfl, hx1, hx2⟩, r2.mono (by omega), B.out⟩
def Got (w : World) (Q : Ending → Prop) (e : Ending) (w' : World) : Prop := Q e ∧ Below w.heap.size w w'
theorem got {w w1 w2 : World} {R : Nat} (hR : w.heap.size ≤ R) (b1 : Below w.heap.size w w1) (b2 : Beside R w1 w2) : Below w.heap.size w w2 := b1.trans (b2.below hR b1.size)
def StopArgs (e : Ending) : Prop := ∃ v r : Int, e = .returned (.tuple #[.int .i64 v, .int .i64 r]) ∧ (-1 ≤ v ∧ v ≤ 201) ∧ (0 ≤ r ∧ r ≤ 51)
end Go.Proofs.Ytnkjnphmpembaaa
