/- Contracts of the draws of distances and motions. -/
import Derived.Test.YtokbppalkbpfaaaDrawProf
namespace Go.Proofs.Ytokbppalkbpfaaa
open Go.ChangeShapes Go.WideShapes Go.ChangeAt Go.RowKit
set_option linter.unusedVariables false
theorem far_any (R m : Nat) (n : Int) (w : World) (h : Rd w R m) (hm : m ≤ 900000) (hn : 1 ≤ n) (hn2 : n ≤ 1000000) :
    Calls Try.prog 42 #[.pointer (some ⟨R, 0, none⟩), .int .i64 n] w (Drew w R (m + 4) (InRange (-1) 5001)) := by
  go_enter Try.func42, Try.ntmps42
  go_wp2_with fail
  refine (odd_any R m n _ h (by omega) hn hn2).mono ?_
  rintro e w1 ⟨⟨b, rfl⟩, r1, b1⟩
  have l1 := r1.lt
  cases b
  · go_wp2_with fail
    refine (pick_any R _ _ _ r1 (by omega) (by omega) (by omega)).mono ?_
    rintro e w2 ⟨v2, p1, p2, rfl, r2, b2⟩
    go_wp2_with fail
    refine (pick_any R _ _ _ r2 (by omega) (by omega) (by omega)).mono ?_
    rintro e w3 ⟨v3, p3, p4, rfl, r3, b3⟩
    have l3 := r3.lt
    go_wp2_with fail
    refine (pick_any R _ _ _ ((r3.alloc _).alloc _) (by omega) (by omega) (by omega)).mono ?_
    rintro e w4 ⟨v4, p5, p6, rfl, r4, b4⟩
    obtain ⟨x, hx, cx⟩ := lit_cell b4 [0, 0, 0, 1, 1, 2, 3, 4] 3 (alloc2_snd _ _ _) (by omega) (fun x => 0 ≤ x ∧ x < 5) (by decide) v4 p5 p6
    obtain ⟨hx1, hx2⟩ := hx
    obtain ⟨y, hy, cy⟩ := lit_cell b4 [v2, v3 * 4, 0, 1, 5000] 3 (alloc2_fst _ _ _) (by omega) (fun y => -1 ≤ y ∧ y ≤ 5001) (by intro y hy; simp at hy; omega) x hx1 hx2
    obtain ⟨hy1, hy2⟩ := hy
    have B := Lib.hid ((((b1.trans b2).trans b3).alloc _).alloc _ |>.trans b4)
    clear b1 b2 b3 b4 r1 r2 r3
    go_wp2_with fail
    go_ret
    exact ⟨⟨y, rfl, hy1, hy2⟩, r4, B.out⟩
  · go_wp2_with fail
    refine (pick_any R _ _ _ (r1.alloc _) (by omega) (by omega) (by omega)).mono ?_
    rintro e w2 ⟨v2, p1, p2, rfl, r2, b2⟩
    obtain ⟨x, hx, cx⟩ := lit_cell b2 [-1, 5001] 3 (alloc1 w1 _) (by omega) (fun x => -1 ≤ x ∧ x ≤ 5001) (by decide) v2 p1 p2
    obtain ⟨hx1, hx2⟩ := hx
    have B := Lib.hid ((b1.alloc _).trans b2)
    clear b1 b2 r1
    go_wp2_with fail
    go_ret
    exact ⟨⟨x, rfl, hx1, hx2⟩, r2.mono (by omega), B.out⟩
def MoveArgs (e : Ending) : Prop := ∃ d t r : Int, e = .returned (.tuple #[.int .i64 d, .int .i64 t, .int .i64 r]) ∧ (-1 ≤ d ∧ d ≤ 5001) ∧ (0 ≤ t ∧ t ≤ 201) ∧ (0 ≤ r ∧ r ≤ 51)
theorem draw_mp (a : Option Addr) (len cap : Nat) (zs : List Int) (w : World) (h : IsRow .u8 w a len cap zs) :
    Calls Try.prog 32 #[.slice a len cap] w (Got w MoveArgs) := by
  go_enter Try.func32, Try.ntmps32
  go_wp2_with fail
  refine (open_any a len cap zs _ h).mono ?_
  rintro e w1 ⟨R, rfl, hR, r1, b1⟩
  go_wp2_with fail
  refine (far_any R _ _ _ r1 (by omega) (by omega) (by omega)).mono ?_
  rintro e w2 ⟨⟨d, rfl, p1, p2⟩, r2, b2⟩
  go_wp2_with fail
  refine (top_any R _ _ _ r2 (by omega) (by omega) (by omega)).mono ?_
  rintro e w3 ⟨⟨t, rfl, p3, p4⟩, r3, b3⟩
  go_wp2_with fail
  refine (rise_any R _ _ _ r3 (by omega) (by omega) (by omega)).mono ?_
  rintro e w4 ⟨⟨r, rfl, p5, p6⟩, r4, b4⟩
  go_wp2_with fail
  go_ret3
  exact ⟨⟨d, t, r, rfl, ⟨p1, p2⟩, ⟨p3, p4⟩, ⟨p5, p6⟩⟩, got hR b1 ((b2.trans b3).trans b4)⟩
theorem draw_pt (a : Option Addr) (len cap : Nat) (zs : List Int) (w : World) (h : IsRow .u8 w a len cap zs) :
    Calls Try.prog 34 #[.slice a len cap] w (Got w MoveArgs) := by
  go_enter Try.func34, Try.ntmps34
  go_wp2_with fail
  refine (draw_mp a len cap zs _ h).mono ?_
  rintro e w1 ⟨⟨d, t, r, rfl, q⟩, b1⟩
  go_wp2_with fail
  go_ret3
  exact ⟨⟨d, t, r, rfl, q⟩, b1⟩
def NextArgs (e : Ending) : Prop := ∃ v d t r : Int, e = .returned (.tuple #[.int .i64 v, .int .i64 d, .int .i64 t, .int .i64 r]) ∧ (-1 ≤ v ∧ v ≤ 201) ∧ (-1 ≤ d ∧ d ≤ 5001) ∧ (0 ≤ t ∧ t ≤ 201) ∧ (0 ≤ r ∧ r ≤ 51)
theorem draw_next (a : Option Addr) (len cap : Nat) (zs : List Int) (w : World) (h : IsRow .u8 w a len cap zs) :
    Calls Try.prog 30 #[.slice a len cap] w (Got w NextArgs) := by
  go_enter Try.func30, Try.ntmps30
  go_wp2_with fail
  refine (open_any a len cap zs _ h).mono ?_
  rintro e w1 ⟨R, rfl, hR, r1, b1⟩
  go_wp2_with fail
  refine (pick_any R _ _ _ r1 (by omega) (by omega) (by omega)).mono ?_
  rintro e wa ⟨va, pa1, pa2, rfl, ra, ba⟩
  go_wp2_with fail
  refine (pick_any R _ _ _ ra (by omega) (by omega) (by omega)).mono ?_
  rintro e wb ⟨vb, pb1, pb2, rfl, rb, bb⟩
  have lb := rb.lt
  go_wp2_with fail
  refine (pick_any R _ _ _ ((rb.alloc _).alloc _) (by omega) (by omega) (by omega)).mono ?_
  rintro e wc ⟨vc, pc1, pc2, rfl, rc, bc⟩
  obtain ⟨x, hx, cx⟩ := lit_cell bc [0, 0, 0, 1, 1, 2] 3 (alloc2_snd _ _ _) (by omega) (fun x => 0 ≤ x ∧ x < 3) (by decide) vc pc1 pc2
  obtain ⟨hx1, hx2⟩ := hx
  obtain ⟨v, hy, cy⟩ := lit_cell bc [va, vb, -1] 3 (alloc2_fst _ _ _) (by omega) (fun y => -1 ≤ y ∧ y ≤ 201) (by intro y hy; simp at hy; omega) x hx1 hx2
  have B := Lib.hid (((ba.trans bb).alloc _).alloc _ |>.trans bc)
  clear ba bb bc r1 ra rb
  go_wp2_with fail
  refine (far_any R _ _ _ rc (by omega) (by omega) (by omega)).mono ?_
  rintro e w2 ⟨⟨d, rfl, p1, p2⟩, r2, b2⟩
  clear cx cy
  go_wp2_with fail
  refine (top_any R _ _ _ r2 (by omega) (by omega) (by omega)).mono ?_
  rintro e w3 ⟨⟨t, rfl, p3, p4⟩, r3, b3⟩
  go_wp2_with fail
  refine (rise_any R _ _ _ r3 (by omega) (by omega) (by omega)).mono ?_
  rintro e w4 ⟨⟨r, rfl, p5, p6⟩, r4, b4⟩
  go_wp2_with fail
  refine bodyPost_ret (v := .tuple #[.int .i64 v, .int .i64 d, .int .i64 t, .int .i64 r]) (by simp [results, Try.results30, go_sem]) rfl ⟨⟨v, d, t, r, rfl, hy, ⟨p1, p2⟩, ⟨p3, p4⟩, ⟨p5, p6⟩⟩, ?_⟩
  exact got hR b1 (((B.out.trans b2).trans b3).trans b4)
end Go.Proofs.Ytokbppalkbpfaaa
