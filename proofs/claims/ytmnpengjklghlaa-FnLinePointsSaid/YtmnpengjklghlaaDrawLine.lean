/- Contract of the draw of two points and a number. -/
import Derived.Test.YtmnpengjklghlaaDrawPv
import Derived.Test.YtmnpengjklghlaaLit
import Derived.Test.YtmnpengjklghlaaAt
import Derived.Deep.Cut
namespace Go.Proofs.Ytmnpengjklghlaa
open Go.ChangeShapes Go.WideShapes Go.ChangeAt Go.RowKit
set_option linter.unusedVariables false
def LineArgs (w : World) (e : Ending) (w' : World) : Prop := ∃ a b c d n : Int, e = .returned (.tuple #[.agg #[.int .i64 a, .int .i64 b], .agg #[.int .i64 c, .int .i64 d], .int .i64 n]) ∧ Below w.heap.size w w'
/-- the state of the draw: both results, both points -/
structure LnSt (w W : World) (R m K1 K2 : Nat) (u1 v1 u2 v2 x1 y1 x2 y2 : Int) : Prop where
  s1 : Slot W w.heap.size u1 v1
  s2 : Slot W (w.heap.size + 1) u2 v2
  c1 : Slot W K1 x1 y1
  c2 : Slot W K2 x2 y2
  r : Rd W R m
  q : Below w.heap.size w W
  h : w.heap.size + 1 < R ∧ R < K1 ∧ K1 < K2
theorem LnSt.beside {w W W' : World} {R m m' K1 K2 : Nat} {u1 v1 u2 v2 x1 y1 x2 y2 : Int} (h : LnSt w W R m K1 K2 u1 v1 u2 v2 x1 y1 x2 y2) (r : Rd W' R m') (b : Beside R W W') : LnSt w W' R m' K1 K2 u1 v1 u2 v2 x1 y1 x2 y2 := by
  have hh := h.h
  exact ⟨h.s1.beside b (by omega), h.s2.beside b (by omega), h.c1.beside b (by omega), h.c2.beside b (by omega), r, got (by omega) h.q b, hh⟩
theorem LnSt.alloc {w W : World} {R m K1 K2 : Nat} {u1 v1 u2 v2 x1 y1 x2 y2 : Int} (h : LnSt w W R m K1 K2 u1 v1 u2 v2 x1 y1 x2 y2) (o : Obj) : LnSt w (W.alloc o) R m K1 K2 u1 v1 u2 v2 x1 y1 x2 y2 := h.beside (h.r.alloc o) ((Beside.refl R W).alloc o)
theorem LnSt.drew {w W : World} {R m K1 K2 : Nat} {u1 v1 u2 v2 x1 y1 x2 y2 : Int} (h : LnSt w W R m K1 K2 u1 v1 u2 v2 x1 y1 x2 y2) : LnSt w W.drew R m K1 K2 u1 v1 u2 v2 x1 y1 x2 y2 := h.beside (h.r.drewN 1) ((Beside.refl R W).drewN 1)
/-- the state behind the last pick -/
structure LnEnd (w W : World) (K1 K2 : Nat) (u1 v1 u2 v2 x1 y1 x2 y2 : Int) : Prop where
  s1 : Slot W w.heap.size u1 v1
  s2 : Slot W (w.heap.size + 1) u2 v2
  c1 : Slot W K1 x1 y1
  c2 : Slot W K2 x2 y2
  q : Below w.heap.size w W
  h : w.heap.size + 1 < K1 ∧ K1 < K2
theorem LnSt.fin {w W : World} {R m K1 K2 : Nat} {u1 v1 u2 v2 x1 y1 x2 y2 : Int} (h : LnSt w W R m K1 K2 u1 v1 u2 v2 x1 y1 x2 y2) : LnEnd w W K1 K2 u1 v1 u2 v2 x1 y1 x2 y2 := by
  have hh := h.h
  exact ⟨h.s1, h.s2, h.c1, h.c2, h.q, by omega⟩
theorem LnEnd.alloc {w W : World} {K1 K2 : Nat} {u1 v1 u2 v2 x1 y1 x2 y2 : Int} (h : LnEnd w W K1 K2 u1 v1 u2 v2 x1 y1 x2 y2) (o : Obj) : LnEnd w (W.alloc o) K1 K2 u1 v1 u2 v2 x1 y1 x2 y2 := ⟨h.s1.alloc o, h.s2.alloc o, h.c1.alloc o, h.c2.alloc o, bel_alloc h.q o, h.h⟩
theorem LnEnd.put1 {w W : World} {K1 K2 : Nat} {u1 v1 u2 v2 x1 y1 x2 y2 : Int} (h : LnEnd w W K1 K2 u1 v1 u2 v2 x1 y1 x2 y2) (a b : Int) : LnEnd w ((W.setCell ⟨w.heap.size, 0, none⟩ (.int .i64 a)).setCell ⟨w.heap.size, 1, none⟩ (.int .i64 b)) K1 K2 a b u2 v2 x1 y1 x2 y2 := by
  have hh := h.h
  exact ⟨h.s1.put a b, (h.s2.set _ (by omega)).set _ (by omega), (h.c1.set _ (by omega)).set _ (by omega), (h.c2.set _ (by omega)).set _ (by omega), bel_set (bel_set h.q (Nat.le_refl _) _) (Nat.le_refl _) _, hh⟩
theorem LnEnd.put2 {w W : World} {K1 K2 : Nat} {u1 v1 u2 v2 x1 y1 x2 y2 : Int} (h : LnEnd w W K1 K2 u1 v1 u2 v2 x1 y1 x2 y2) (a b : Int) : LnEnd w ((W.setCell ⟨w.heap.size + 1, 0, none⟩ (.int .i64 a)).setCell ⟨w.heap.size + 1, 1, none⟩ (.int .i64 b)) K1 K2 u1 v1 a b x1 y1 x2 y2 := by
  have hh := h.h
  exact ⟨(h.s1.set _ (by omega)).set _ (by omega), h.s2.put a b, (h.c1.set _ (by omega)).set _ (by omega), (h.c2.set _ (by omega)).set _ (by omega), bel_set (bel_set h.q (by omega) _) (by omega) _, hh⟩
theorem line_idx : ∀ t : Nat, t < 7 → (([0, 0, 0, 0, 1, 2, 3] : List Int).getD t 0) = ((([0, 0, 0, 0, 1, 2, 3] : List Int).getD t 0).toNat : Int) ∧ (([0, 0, 0, 0, 1, 2, 3] : List Int).getD t 0).toNat < 4 := by decide
set_option maxRecDepth 20000 in
set_option maxHeartbeats 16000000 in
theorem draw_line (a : Option Addr) (len cap : Nat) (zs : List Int) (w : World) (h : IsRow .u8 w a len cap zs) :
    Calls Try.prog 13 #[.slice a len cap] w (LineArgs w) := by
  have S2 := (Slot.new w 0 0 26).alloc (.cells #[.int .i64 0, .int .i64 0] 26)
  have S3 := Slot.new (w.alloc (.cells #[.int .i64 0, .int .i64 0] 26)) 0 0 26
  rw [World.size_alloc] at S3
  have q := Lib.hid (bel_alloc (bel_alloc (Below.refl _ w) (.cells #[.int .i64 0, .int .i64 0] 26)) (.cells #[.int .i64 0, .int .i64 0] 26))
  have h1 := (h.alloc (.cells #[.int .i64 0, .int .i64 0] 26)).alloc (.cells #[.int .i64 0, .int .i64 0] 26)
  go_enter Try.func13, Try.ntmps13
  go_wp2_with fail
  refine (open_any a len cap zs _ h1).mono ?_
  rintro e w1 ⟨R, rfl, hR, r1, b⟩
  have hR2 : w.heap.size + 1 < R := by simp at hR; omega
  have S2 := S2.old b
  have S3 := S3.old b
  have q := Lib.hid (bel_trans q.out (Lib.hid b))
  clear b h1
  go_wp2_with fail
  refine (pt_any R 0 _ _ r1 (by omega) (by omega) (by omega)).mono ?_
  rintro e w2 ⟨⟨x1, y1, rfl, _, _⟩, r2, b⟩
  have S2 := S2.beside b (by omega)
  have S3 := S3.beside b (by omega)
  have q := Lib.hid (got (by omega) q.out b)
  clear b r1
  have l2 := r2.lt
  have r2 : Rd w2 R 8 := r2
  have S6 := Slot.new w2 x1 y1 26
  have S2 := S2.alloc (.cells #[.int .i64 x1, .int .i64 y1] 26)
  have S3 := S3.alloc (.cells #[.int .i64 x1, .int .i64 y1] 26)
  have q := Lib.hid (bel_alloc q.out (.cells #[.int .i64 x1, .int .i64 y1] 26))
  have r2 := r2.alloc (.cells #[.int .i64 x1, .int .i64 y1] 26)
  go_wp2_with fail
  refine (pt_any R 8 _ _ r2 (by omega) (by omega) (by omega)).mono ?_
  rintro e w3 ⟨⟨x2, y2, rfl, _, _⟩, r3, b⟩
  have S2 := S2.beside b (by omega)
  have S3 := S3.beside b (by omega)
  have S6 := S6.beside b (by omega)
  have k2 := S6.2.2.2.2
  have q := Lib.hid (got (by omega) q.out b)
  clear b r2
  have l3 := r3.lt
  have r3 : Rd w3 R 16 := r3
  have S7 := Slot.new w3 x2 y2 26
  have S2 := S2.alloc (.cells #[.int .i64 x2, .int .i64 y2] 26)
  have S3 := S3.alloc (.cells #[.int .i64 x2, .int .i64 y2] 26)
  have S6 := S6.alloc (.cells #[.int .i64 x2, .int .i64 y2] 26)
  have q := Lib.hid (bel_alloc q.out (.cells #[.int .i64 x2, .int .i64 y2] 26))
  have r3 := r3.alloc (.cells #[.int .i64 x2, .int .i64 y2] 26)
  go_upto_region 4 with fail
  have ln : LnSt w _ R 16 w2.heap.size w3.heap.size 0 0 0 0 x1 y1 x2 y2 := ⟨S2, S3, S6, S7, r3, q.out, ⟨hR2, l2, k2⟩⟩
  replace ln := ln.drew
  clear S2 S3 S6 S7 r3 q l2 l3 k2
  generalize w3.alloc (.cells #[.int .i64 x2, .int .i64 y2] 26) = v at *
  generalize w2.heap.size = K1 at *
  generalize w3.heap.size = K2 at *
  have hh := ln.h
  have s := (And.intro (And.intro ln.c1.1 ln.c1.2.1) (And.intro ln.c2.1 ln.c2.2.1))
  refine wp_region_held_drew (S := (fun w' => (w'.cell? ⟨K1, 0, none⟩ = some (.int .i64 x1) ∧ w'.cell? ⟨K1, 1, none⟩ = some (.int .i64 y1)) ∧ (w'.cell? ⟨K2, 0, none⟩ = some (.int .i64 x2) ∧ w'.cell? ⟨K2, 1, none⟩ = some (.int .i64 y2)))) (by kernel_rfl) s (fun hHeld => ?_)
  generalize v.drew = u0 at *
  refine wpAnyH_take (i := 0) (v := ?vr1y1x0) nth0 (by kernel_rfl) (by kernel_rfl) (by kernel_rfl) (fun _ _ _ h => h) (Or.inl ⟨by rfl, ?hyr1y1x0⟩) hHeld ?_
  case hyr1y1x0 => (intro wH hSw; (try dsimp only at hSw); go_simp; (try with_reducible rfl))
  simp only [Act.put, List.setIfInBounds_toArray, List.set_cons_zero, List.set_cons_succ]
  refine wpAnyH_take (i := 1) (v := ?vr1y2x1) nth1 (by kernel_rfl) (by kernel_rfl) (by kernel_rfl) (fun _ _ _ h => h) (Or.inl ⟨by rfl, ?hyr1y2x1⟩) hHeld ?_
  case hyr1y2x1 => (intro wH hSw; (try dsimp only at hSw); go_simp; (try with_reducible rfl))
  simp only [Act.put, List.setIfInBounds_toArray, List.set_cons_zero, List.set_cons_succ]
  refine wpAnyH_take (i := 2) (v := ?vr1y3x2) nth2 (by kernel_rfl) (by kernel_rfl) (by kernel_rfl) (fun _ _ _ h => h) (Or.inl ⟨by rfl, ?hyr1y3x2⟩) hHeld ?_
  case hyr1y3x2 => (intro wH hSw; (try dsimp only at hSw); go_simp; (try with_reducible rfl))
  simp only [Act.put, List.setIfInBounds_toArray, List.set_cons_zero, List.set_cons_succ]
  refine wpAnyH_take (i := 7) (v := ?vr1y4x7) nth7 (by kernel_rfl) (by kernel_rfl) (by kernel_rfl) (fun _ _ _ h => h) (Or.inl ⟨by rfl, ?hyr1y4x7⟩) hHeld ?_
  case hyr1y4x7 => (intro wH hSw; (try dsimp only at hSw); go_simp; (try with_reducible rfl))
  simp only [Act.put, List.setIfInBounds_toArray, List.set_cons_zero, List.set_cons_succ]
  refine wpAnyH_ready (rs := [3, 6]) (by kernel_rfl) (by simp) ?_
  refine AllReadyH.cons nth3 (fun KK hKK => ?_) ?_
  · clear hHeld s
    go_simp
    go_at_call 28
    refine (pick_any R 16 _ _ ln.r (by omega) (by omega) (by omega)).mono ?_
    rintro e u1 ⟨p_, pp, pq, rfl, r, b⟩
    replace ln := ln.beside r b
    clear b r
    obtain ⟨p, rfl⟩ : ∃ t : Nat, p_ = t := ⟨p_.toNat, by omega⟩
    have pl : p < 20 := by omega
    have ew : IntKind.i64.wrap (1 + (p : Int)) = 1 + (p : Int) := IntWalk.i64_in _ (by omega)
    have s := (And.intro (And.intro ln.c1.1 ln.c1.2.1) (And.intro ln.c2.1 ln.c2.2.1))
    refine hKK.out _ _ s (fun hHeld => ?_)
    clear hKK KK hHeld
    try simp only [Act.put, List.setIfInBounds_toArray, List.set_cons_zero, List.set_cons_succ]
    have hHeld := s
    refine wpAnyH_take (i := 4) (v := ?vr1y5x4) nth4 (by kernel_rfl) (by kernel_rfl) (by kernel_rfl) (fun _ _ _ h => h) (Or.inl ⟨by rfl, ?hyr1y5x4⟩) hHeld ?_
    case hyr1y5x4 => (intro wH hSw; (try dsimp only at hSw); go_simp; (try with_reducible rfl))
    simp only [Act.put, List.setIfInBounds_toArray, List.set_cons_zero, List.set_cons_succ]
    refine wpAnyH_ready (rs := [5, 6, 8]) (by kernel_rfl) (by simp) ?_
    refine AllReadyH.cons nth5 (fun KK hKK => ?_) ?_
    · clear hHeld s
      go_simp
      have litA : LitAt (u1.alloc (.cells #[.int .i64 (1 + (p : Int)), .int .i64 0, .int .i64 401, .int .i64 1] 3)) u1.heap.size [1 + (p : Int), 0, 401, 1] := LitAt.new u1 [1 + (p : Int), 0, 401, 1] 3
      have szA : u1.heap.size < (u1.alloc (.cells #[.int .i64 (1 + (p : Int)), .int .i64 0, .int .i64 401, .int .i64 1] 3)).heap.size := by simp
      have gtA : K2 < u1.heap.size := ln.c2.2.2.2.2
      replace ln := ln.alloc (.cells #[.int .i64 (1 + (p : Int)), .int .i64 0, .int .i64 401, .int .i64 1] 3)
      generalize u1.alloc (.cells #[.int .i64 (1 + (p : Int)), .int .i64 0, .int .i64 401, .int .i64 1] 3) = u2 at *
      generalize u1.heap.size = JA at *
      have s := (And.intro (And.intro ln.c1.1 ln.c1.2.1) (And.intro ln.c2.1 ln.c2.2.1))
      refine hKK.out _ _ s (fun hHeld => ?_)
      clear hKK KK hHeld
      try simp only [Act.put, List.setIfInBounds_toArray, List.set_cons_zero, List.set_cons_succ]
      clear s
      have s := (And.intro (And.intro (And.intro ln.c1.1 ln.c1.2.1) (And.intro ln.c2.1 ln.c2.2.1)) litA)
      refine wpAnyH_strong (S' := (fun w' => ((w'.cell? ⟨K1, 0, none⟩ = some (.int .i64 x1) ∧ w'.cell? ⟨K1, 1, none⟩ = some (.int .i64 y1)) ∧ (w'.cell? ⟨K2, 0, none⟩ = some (.int .i64 x2) ∧ w'.cell? ⟨K2, 1, none⟩ = some (.int .i64 y2))) ∧ (LitAt w' JA [1 + (p : Int), 0, 401, 1]))) (fun _ h => h.1) ?_
      have hHeld := s
      refine wpAnyH_ready (rs := [6, 8]) (by kernel_rfl) (by simp) ?_
      refine AllReadyH.cons nth6 (fun KK hKK => ?_) ?_
      · clear hHeld s
        go_simp
        have litB : LitAt (u2.alloc (.cells #[.int .i64 0, .int .i64 0, .int .i64 0, .int .i64 0, .int .i64 1, .int .i64 2, .int .i64 3] 3)) u2.heap.size [0, 0, 0, 0, 1, 2, 3] := LitAt.new u2 [0, 0, 0, 0, 1, 2, 3] 3
        have szB : u2.heap.size < (u2.alloc (.cells #[.int .i64 0, .int .i64 0, .int .i64 0, .int .i64 0, .int .i64 1, .int .i64 2, .int .i64 3] 3)).heap.size := by simp
        replace litA := litA.alloc szA (.cells #[.int .i64 0, .int .i64 0, .int .i64 0, .int .i64 0, .int .i64 1, .int .i64 2, .int .i64 3] 3)
        replace szA : JA < (u2.alloc (.cells #[.int .i64 0, .int .i64 0, .int .i64 0, .int .i64 0, .int .i64 1, .int .i64 2, .int .i64 3] 3)).heap.size := by simp; omega
        have gtB : K2 < u2.heap.size := ln.c2.2.2.2.2
        replace ln := ln.alloc (.cells #[.int .i64 0, .int .i64 0, .int .i64 0, .int .i64 0, .int .i64 1, .int .i64 2, .int .i64 3] 3)
        generalize u2.alloc (.cells #[.int .i64 0, .int .i64 0, .int .i64 0, .int .i64 0, .int .i64 1, .int .i64 2, .int .i64 3] 3) = u3 at *
        generalize u2.heap.size = JB at *
        have s := (And.intro (And.intro (And.intro ln.c1.1 ln.c1.2.1) (And.intro ln.c2.1 ln.c2.2.1)) litA)
        refine hKK.out _ _ s (fun hHeld => ?_)
        clear hKK KK hHeld
        try simp only [Act.put, List.setIfInBounds_toArray, List.set_cons_zero, List.set_cons_succ]
        clear s
        have s := (And.intro (And.intro (And.intro (And.intro ln.c1.1 ln.c1.2.1) (And.intro ln.c2.1 ln.c2.2.1)) litA) litB)
        refine wpAnyH_strong (S' := (fun w' => (((w'.cell? ⟨K1, 0, none⟩ = some (.int .i64 x1) ∧ w'.cell? ⟨K1, 1, none⟩ = some (.int .i64 y1)) ∧ (w'.cell? ⟨K2, 0, none⟩ = some (.int .i64 x2) ∧ w'.cell? ⟨K2, 1, none⟩ = some (.int .i64 y2))) ∧ (LitAt w' JA [1 + (p : Int), 0, 401, 1])) ∧ (LitAt w' JB [0, 0, 0, 0, 1, 2, 3]))) (fun _ h => h.1) ?_
        have hHeld := s
        refine wpAnyH_ready (rs := [8]) (by kernel_rfl) (by simp) ?_
        refine AllReadyH.cons nth8 (fun KK hKK => ?_) ?_
        · clear hHeld s
          go_simp
          go_at_call 28
          refine (pick_any R 17 _ _ ln.r (by omega) (by omega) (by omega)).mono ?_
          rintro e u4 ⟨t_, tp, tq, rfl, r, b⟩
          replace litA := litA.beside b szA (by omega)
          replace szA := Nat.lt_of_lt_of_le szA b.size
          replace litB := litB.beside b szB (by omega)
          replace szB := Nat.lt_of_lt_of_le szB b.size
          replace ln := ln.beside r b
          clear b r
          obtain ⟨t, rfl⟩ : ∃ t : Nat, t_ = t := ⟨t_.toNat, by omega⟩
          have tl : t < 7 := by omega
          obtain ⟨ix1, ix2⟩ := line_idx t tl
          generalize hix : (([0, 0, 0, 0, 1, 2, 3] : List Int).getD t 0).toNat = ix at ix1 ix2
          clear hix
          have ix3 : (ix : Int) < 4 := by omega
          obtain ⟨n, hn⟩ : ∃ n, ([1 + (p : Int), 0, 401, 1] : List Int).getD ix 0 = n := ⟨_, rfl⟩
          replace ln := ln.fin
          have s := (And.intro (And.intro (And.intro (And.intro ln.c1.1 ln.c1.2.1) (And.intro ln.c2.1 ln.c2.2.1)) litA) litB)
          refine hKK.out _ _ s (fun hHeld => ?_)
          clear hKK KK hHeld
          try simp only [Act.put, List.setIfInBounds_toArray, List.set_cons_zero, List.set_cons_succ]
          have hHeld := s
          refine wpAnyH_take (i := 9) (v := ?vr1y6x9) nth9 (by kernel_rfl) (by kernel_rfl) (by kernel_rfl) (fun _ _ _ h => h) (Or.inl ⟨by rfl, ?hyr1y6x9⟩) hHeld ?_
          case hyr1y6x9 => (intro wH hSw; (try dsimp only at hSw); go_simp; (try with_reducible rfl))
          simp only [Act.put, List.setIfInBounds_toArray, List.set_cons_zero, List.set_cons_succ]
          refine wpAnyH_take (i := 10) (v := .int .i64 (ix : Int)) nth10 (by kernel_rfl) (by kernel_rfl) (by kernel_rfl) (fun _ _ _ h => h) (Or.inl ⟨by rfl, ?hyr1y7x10⟩) hHeld ?_
          case hyr1y7x10 => (intro wH hSw; have hc := hSw.2 t (by simp; omega); rw [ix1] at hc; clear hSw; go_simp)
          simp only [Act.put, List.setIfInBounds_toArray, List.set_cons_zero, List.set_cons_succ]
          refine wpAnyH_take (i := 11) (v := ?vr1y8x11) nth11 (by kernel_rfl) (by kernel_rfl) (by kernel_rfl) (fun _ _ _ h => h) (Or.inl ⟨by rfl, ?hyr1y8x11⟩) hHeld ?_
          case hyr1y8x11 => (intro wH hSw; (try dsimp only at hSw); go_simp; (try with_reducible rfl))
          simp only [Act.put, List.setIfInBounds_toArray, List.set_cons_zero, List.set_cons_succ]
          refine wpAnyH_take (i := 12) (v := .int .i64 n) nth12 (by kernel_rfl) (by kernel_rfl) (by kernel_rfl) (fun _ _ _ h => h) (Or.inl ⟨by rfl, ?hyr1y9x12⟩) hHeld ?_
          case hyr1y9x12 => (intro wH hSw; have hc := hSw.1.2 ix (by simp; omega); rw [hn] at hc; clear hSw; go_simp)
          simp only [Act.put, List.setIfInBounds_toArray, List.set_cons_zero, List.set_cons_succ]
          refine wpAnyH_ready (rs := [13]) (by kernel_rfl) (by simp) ?_
          refine AllReadyH.cons nth13 (fun KK hKK => ?_) ?_
          · clear hHeld s
            obtain ⟨a1, a2, a3, a4, a5⟩ := ln.s1
            go_simp
            clear a1 a2 a3 a4 a5
            replace litA := (litA.set (.int .i64 x1) (j := w.heap.size) (o := 0) (by omega)).set (.int .i64 y1) (j := w.heap.size) (o := 1) (by omega)
            replace szA : JA < ((u4.setCell ⟨w.heap.size, 0, none⟩ (.int .i64 x1)).setCell ⟨w.heap.size, 1, none⟩ (.int .i64 y1)).heap.size := by simpa [World.setCell] using szA
            replace litB := (litB.set (.int .i64 x1) (j := w.heap.size) (o := 0) (by omega)).set (.int .i64 y1) (j := w.heap.size) (o := 1) (by omega)
            replace szB : JB < ((u4.setCell ⟨w.heap.size, 0, none⟩ (.int .i64 x1)).setCell ⟨w.heap.size, 1, none⟩ (.int .i64 y1)).heap.size := by simpa [World.setCell] using szB
            replace ln := ln.put1 x1 y1
            generalize ((u4.setCell ⟨w.heap.size, 0, none⟩ (.int .i64 x1)).setCell ⟨w.heap.size, 1, none⟩ (.int .i64 y1)) = u5 at *
            have s := (And.intro (And.intro (And.intro (And.intro ln.c1.1 ln.c1.2.1) (And.intro ln.c2.1 ln.c2.2.1)) litA) litB)
            refine hKK.out _ _ s (fun hHeld => ?_)
            clear hKK KK hHeld
            try simp only [Act.put, List.setIfInBounds_toArray, List.set_cons_zero, List.set_cons_succ]
            have hHeld := s
            refine wpAnyH_ready (rs := [14]) (by kernel_rfl) (by simp) ?_
            refine AllReadyH.cons nth14 (fun KK hKK => ?_) ?_
            · clear hHeld s
              obtain ⟨a1, a2, a3, a4, a5⟩ := ln.s2
              go_simp
              clear a1 a2 a3 a4 a5
              replace litA := (litA.set (.int .i64 x2) (j := w.heap.size + 1) (o := 0) (by omega)).set (.int .i64 y2) (j := w.heap.size + 1) (o := 1) (by omega)
              replace szA : JA < ((u5.setCell ⟨w.heap.size + 1, 0, none⟩ (.int .i64 x2)).setCell ⟨w.heap.size + 1, 1, none⟩ (.int .i64 y2)).heap.size := by simpa [World.setCell] using szA
              replace litB := (litB.set (.int .i64 x2) (j := w.heap.size + 1) (o := 0) (by omega)).set (.int .i64 y2) (j := w.heap.size + 1) (o := 1) (by omega)
              replace szB : JB < ((u5.setCell ⟨w.heap.size + 1, 0, none⟩ (.int .i64 x2)).setCell ⟨w.heap.size + 1, 1, none⟩ (.int .i64 y2)).heap.size := by simpa [World.setCell] using szB
              replace ln := ln.put2 x2 y2
              generalize ((u5.setCell ⟨w.heap.size + 1, 0, none⟩ (.int .i64 x2)).setCell ⟨w.heap.size + 1, 1, none⟩ (.int .i64 y2)) = u6 at *
              have s := (And.intro (And.intro (And.intro (And.intro ln.c1.1 ln.c1.2.1) (And.intro ln.c2.1 ln.c2.2.1)) litA) litB)
              refine hKK.out _ _ s (fun hHeld => ?_)
              clear hKK KK hHeld
              try simp only [Act.put, List.setIfInBounds_toArray, List.set_cons_zero, List.set_cons_succ]
              have hHeld := s
              refine wpAnyH_take (i := 15) (v := ?vr1y10x15) nth15 (by kernel_rfl) (by kernel_rfl) (by kernel_rfl) (fun _ _ _ h => h) (Or.inl ⟨by rfl, ?hyr1y10x15⟩) hHeld ?_
              case hyr1y10x15 => (intro wH hSw; (try dsimp only at hSw); go_simp; (try with_reducible rfl))
              simp only [Act.put, List.setIfInBounds_toArray, List.set_cons_zero, List.set_cons_succ]
              refine wpAnyH_done (by kernel_rfl) ?_ _
              clear hHeld s
              obtain ⟨a1, a2, a3, a4, a5⟩ := ln.s1
              obtain ⟨a6, a7, a8, a9, a10⟩ := ln.s2
              go_wp2_with fail
              exact bodyPost_ret (v := .tuple #[.agg #[.int .i64 x1, .int .i64 y1], .agg #[.int .i64 x2, .int .i64 y2], .int .i64 n]) (by simp [results, Try.results13, go_sem, a1, a2, a6, a7]) rfl ⟨x1, y1, x2, y2, n, rfl, ln.q⟩
            exact AllReadyH.nil
          exact AllReadyH.nil
        exact AllReadyH.nil
      refine AllReadyH.cons nth8 (fun KK hKK => ?_) ?_
      · clear hHeld s
        go_simp
        go_at_call 28
        refine (pick_any R 17 _ _ ln.r (by omega) (by omega) (by omega)).mono ?_
        rintro e u3 ⟨t_, tp, tq, rfl, r, b⟩
        replace litA := litA.beside b szA (by omega)
        replace szA := Nat.lt_of_lt_of_le szA b.size
        replace ln := ln.beside r b
        clear b r
        obtain ⟨t, rfl⟩ : ∃ t : Nat, t_ = t := ⟨t_.toNat, by omega⟩
        have tl : t < 7 := by omega
        obtain ⟨ix1, ix2⟩ := line_idx t tl
        generalize hix : (([0, 0, 0, 0, 1, 2, 3] : List Int).getD t 0).toNat = ix at ix1 ix2
        clear hix
        have ix3 : (ix : Int) < 4 := by omega
        obtain ⟨n, hn⟩ : ∃ n, ([1 + (p : Int), 0, 401, 1] : List Int).getD ix 0 = n := ⟨_, rfl⟩
        replace ln := ln.fin
        have s := (And.intro (And.intro (And.intro ln.c1.1 ln.c1.2.1) (And.intro ln.c2.1 ln.c2.2.1)) litA)
        refine hKK.out _ _ s (fun hHeld => ?_)
        clear hKK KK hHeld
        try simp only [Act.put, List.setIfInBounds_toArray, List.set_cons_zero, List.set_cons_succ]
        have hHeld := s
        refine wpAnyH_ready (rs := [6, 13]) (by kernel_rfl) (by simp) ?_
        refine AllReadyH.cons nth6 (fun KK hKK => ?_) ?_
        · clear hHeld s
          go_simp
          have litB : LitAt (u3.alloc (.cells #[.int .i64 0, .int .i64 0, .int .i64 0, .int .i64 0, .int .i64 1, .int .i64 2, .int .i64 3] 3)) u3.heap.size [0, 0, 0, 0, 1, 2, 3] := LitAt.new u3 [0, 0, 0, 0, 1, 2, 3] 3
          have szB : u3.heap.size < (u3.alloc (.cells #[.int .i64 0, .int .i64 0, .int .i64 0, .int .i64 0, .int .i64 1, .int .i64 2, .int .i64 3] 3)).heap.size := by simp
          replace litA := litA.alloc szA (.cells #[.int .i64 0, .int .i64 0, .int .i64 0, .int .i64 0, .int .i64 1, .int .i64 2, .int .i64 3] 3)
          replace szA : JA < (u3.alloc (.cells #[.int .i64 0, .int .i64 0, .int .i64 0, .int .i64 0, .int .i64 1, .int .i64 2, .int .i64 3] 3)).heap.size := by simp; omega
          have gtB : K2 < u3.heap.size := ln.c2.2.2.2.2
          replace ln := ln.alloc (.cells #[.int .i64 0, .int .i64 0, .int .i64 0, .int .i64 0, .int .i64 1, .int .i64 2, .int .i64 3] 3)
          generalize u3.alloc (.cells #[.int .i64 0, .int .i64 0, .int .i64 0, .int .i64 0, .int .i64 1, .int .i64 2, .int .i64 3] 3) = u4 at *
          generalize u3.heap.size = JB at *
          have s := (And.intro (And.intro (And.intro ln.c1.1 ln.c1.2.1) (And.intro ln.c2.1 ln.c2.2.1)) litA)
          refine hKK.out _ _ s (fun hHeld => ?_)
          clear hKK KK hHeld
          try simp only [Act.put, List.setIfInBounds_toArray, List.set_cons_zero, List.set_cons_succ]
          clear s
          have s := (And.intro (And.intro (And.intro (And.intro ln.c1.1 ln.c1.2.1) (And.intro ln.c2.1 ln.c2.2.1)) litA) litB)
          refine wpAnyH_strong (S' := (fun w' => (((w'.cell? ⟨K1, 0, none⟩ = some (.int .i64 x1) ∧ w'.cell? ⟨K1, 1, none⟩ = some (.int .i64 y1)) ∧ (w'.cell? ⟨K2, 0, none⟩ = some (.int .i64 x2) ∧ w'.cell? ⟨K2, 1, none⟩ = some (.int .i64 y2))) ∧ (LitAt w' JA [1 + (p : Int), 0, 401, 1])) ∧ (LitAt w' JB [0, 0, 0, 0, 1, 2, 3]))) (fun _ h => h.1) ?_
          have hHeld := s
          refine wpAnyH_take (i := 9) (v := ?vr1y11x9) nth9 (by kernel_rfl) (by kernel_rfl) (by kernel_rfl) (fun _ _ _ h => h) (Or.inl ⟨by rfl, ?hyr1y11x9⟩) hHeld ?_
          case hyr1y11x9 => (intro wH hSw; (try dsimp only at hSw); go_simp; (try with_reducible rfl))
          simp only [Act.put, List.setIfInBounds_toArray, List.set_cons_zero, List.set_cons_succ]
          refine wpAnyH_take (i := 10) (v := .int .i64 (ix : Int)) nth10 (by kernel_rfl) (by kernel_rfl) (by kernel_rfl) (fun _ _ _ h => h) (Or.inl ⟨by rfl, ?hyr1y12x10⟩) hHeld ?_
          case hyr1y12x10 => (intro wH hSw; have hc := hSw.2 t (by simp; omega); rw [ix1] at hc; clear hSw; go_simp)
          simp only [Act.put, List.setIfInBounds_toArray, List.set_cons_zero, List.set_cons_succ]
          refine wpAnyH_take (i := 11) (v := ?vr1y13x11) nth11 (by kernel_rfl) (by kernel_rfl) (by kernel_rfl) (fun _ _ _ h => h) (Or.inl ⟨by rfl, ?hyr1y13x11⟩) hHeld ?_
          case hyr1y13x11 => (intro wH hSw; (try dsimp only at hSw); go_simp; (try with_reducible rfl))
          simp only [Act.put, List.setIfInBounds_toArray, List.set_cons_zero, List.set_cons_succ]
          refine wpAnyH_take (i := 12) (v := .int .i64 n) nth12 (by kernel_rfl) (by kernel_rfl) (by kernel_rfl) (fun _ _ _ h => h) (Or.inl ⟨by rfl, ?hyr1y14x12⟩) hHeld ?_
          case hyr1y14x12 => (intro wH hSw; have hc := hSw.1.2 ix (by simp; omega); rw [hn] at hc; clear hSw; go_simp)
          simp only [Act.put, List.setIfInBounds_toArray, List.set_cons_zero, List.set_cons_succ]
          refine wpAnyH_ready (rs := [13]) (by kernel_rfl) (by simp) ?_
          refine AllReadyH.cons nth13 (fun KK hKK => ?_) ?_
          · clear hHeld s
            obtain ⟨a1, a2, a3, a4, a5⟩ := ln.s1
            go_simp
            clear a1 a2 a3 a4 a5
            replace litA := (litA.set (.int .i64 x1) (j := w.heap.size) (o := 0) (by omega)).set (.int .i64 y1) (j := w.heap.size) (o := 1) (by omega)
            replace szA : JA < ((u4.setCell ⟨w.heap.size, 0, none⟩ (.int .i64 x1)).setCell ⟨w.heap.size, 1, none⟩ (.int .i64 y1)).heap.size := by simpa [World.setCell] using szA
            replace litB := (litB.set (.int .i64 x1) (j := w.heap.size) (o := 0) (by omega)).set (.int .i64 y1) (j := w.heap.size) (o := 1) (by omega)
            replace szB : JB < ((u4.setCell ⟨w.heap.size, 0, none⟩ (.int .i64 x1)).setCell ⟨w.heap.size, 1, none⟩ (.int .i64 y1)).heap.size := by simpa [World.setCell] using szB
            replace ln := ln.put1 x1 y1
            generalize ((u4.setCell ⟨w.heap.size, 0, none⟩ (.int .i64 x1)).setCell ⟨w.heap.size, 1, none⟩ (.int .i64 y1)) = u5 at *
            have s := (And.intro (And.intro (And.intro (And.intro ln.c1.1 ln.c1.2.1) (And.intro ln.c2.1 ln.c2.2.1)) litA) litB)
            refine hKK.out _ _ s (fun hHeld => ?_)
            clear hKK KK hHeld
            try simp only [Act.put, List.setIfInBounds_toArray, List.set_cons_zero, List.set_cons_succ]
            have hHeld := s
            refine wpAnyH_ready (rs := [14]) (by kernel_rfl) (by simp) ?_
            refine AllReadyH.cons nth14 (fun KK hKK => ?_) ?_
            · clear hHeld s
              obtain ⟨a1, a2, a3, a4, a5⟩ := ln.s2
              go_simp
              clear a1 a2 a3 a4 a5
              replace litA := (litA.set (.int .i64 x2) (j := w.heap.size + 1) (o := 0) (by omega)).set (.int .i64 y2) (j := w.heap.size + 1) (o := 1) (by omega)
              replace szA : JA < ((u5.setCell ⟨w.heap.size + 1, 0, none⟩ (.int .i64 x2)).setCell ⟨w.heap.size + 1, 1, none⟩ (.int .i64 y2)).heap.size := by simpa [World.setCell] using szA
              replace litB := (litB.set (.int .i64 x2) (j := w.heap.size + 1) (o := 0) (by omega)).set (.int .i64 y2) (j := w.heap.size + 1) (o := 1) (by omega)
              replace szB : JB < ((u5.setCell ⟨w.heap.size + 1, 0, none⟩ (.int .i64 x2)).setCell ⟨w.heap.size + 1, 1, none⟩ (.int .i64 y2)).heap.size := by simpa [World.setCell] using szB
              replace ln := ln.put2 x2 y2
              generalize ((u5.setCell ⟨w.heap.size + 1, 0, none⟩ (.int .i64 x2)).setCell ⟨w.heap.size + 1, 1, none⟩ (.int .i64 y2)) = u6 at *
              have s := (And.intro (And.intro (And.intro (And.intro ln.c1.1 ln.c1.2.1) (And.intro ln.c2.1 ln.c2.2.1)) litA) litB)
              refine hKK.out _ _ s (fun hHeld => ?_)
              clear hKK KK hHeld
              try simp only [Act.put, List.setIfInBounds_toArray, List.set_cons_zero, List.set_cons_succ]
              have hHeld := s
              refine wpAnyH_take (i := 15) (v := ?vr1y15x15) nth15 (by kernel_rfl) (by kernel_rfl) (by kernel_rfl) (fun _ _ _ h => h) (Or.inl ⟨by rfl, ?hyr1y15x15⟩) hHeld ?_
              case hyr1y15x15 => (intro wH hSw; (try dsimp only at hSw); go_simp; (try with_reducible rfl))
              simp only [Act.put, List.setIfInBounds_toArray, List.set_cons_zero, List.set_cons_succ]
              refine wpAnyH_done (by kernel_rfl) ?_ _
              clear hHeld s
              obtain ⟨a1, a2, a3, a4, a5⟩ := ln.s1
              obtain ⟨a6, a7, a8, a9, a10⟩ := ln.s2
              go_wp2_with fail
              exact bodyPost_ret (v := .tuple #[.agg #[.int .i64 x1, .int .i64 y1], .agg #[.int .i64 x2, .int .i64 y2], .int .i64 n]) (by simp [results, Try.results13, go_sem, a1, a2, a6, a7]) rfl ⟨x1, y1, x2, y2, n, rfl, ln.q⟩
            exact AllReadyH.nil
          exact AllReadyH.nil
        refine AllReadyH.cons nth13 (fun KK hKK => ?_) ?_
        · clear hHeld s
          obtain ⟨a1, a2, a3, a4, a5⟩ := ln.s1
          go_simp
          clear a1 a2 a3 a4 a5
          replace litA := (litA.set (.int .i64 x1) (j := w.heap.size) (o := 0) (by omega)).set (.int .i64 y1) (j := w.heap.size) (o := 1) (by omega)
          replace szA : JA < ((u3.setCell ⟨w.heap.size, 0, none⟩ (.int .i64 x1)).setCell ⟨w.heap.size, 1, none⟩ (.int .i64 y1)).heap.size := by simpa [World.setCell] using szA
          replace ln := ln.put1 x1 y1
          generalize ((u3.setCell ⟨w.heap.size, 0, none⟩ (.int .i64 x1)).setCell ⟨w.heap.size, 1, none⟩ (.int .i64 y1)) = u4 at *
          have s := (And.intro (And.intro (And.intro ln.c1.1 ln.c1.2.1) (And.intro ln.c2.1 ln.c2.2.1)) litA)
          refine hKK.out _ _ s (fun hHeld => ?_)
          clear hKK KK hHeld
          try simp only [Act.put, List.setIfInBounds_toArray, List.set_cons_zero, List.set_cons_succ]
          have hHeld := s
          refine wpAnyH_ready (rs := [6, 14]) (by kernel_rfl) (by simp) ?_
          refine AllReadyH.cons nth6 (fun KK hKK => ?_) ?_
          · clear hHeld s
            go_simp
            have litB : LitAt (u4.alloc (.cells #[.int .i64 0, .int .i64 0, .int .i64 0, .int .i64 0, .int .i64 1, .int .i64 2, .int .i64 3] 3)) u4.heap.size [0, 0, 0, 0, 1, 2, 3] := LitAt.new u4 [0, 0, 0, 0, 1, 2, 3] 3
            have szB : u4.heap.size < (u4.alloc (.cells #[.int .i64 0, .int .i64 0, .int .i64 0, .int .i64 0, .int .i64 1, .int .i64 2, .int .i64 3] 3)).heap.size := by simp
            replace litA := litA.alloc szA (.cells #[.int .i64 0, .int .i64 0, .int .i64 0, .int .i64 0, .int .i64 1, .int .i64 2, .int .i64 3] 3)
            replace szA : JA < (u4.alloc (.cells #[.int .i64 0, .int .i64 0, .int .i64 0, .int .i64 0, .int .i64 1, .int .i64 2, .int .i64 3] 3)).heap.size := by simp; omega
            have gtB : K2 < u4.heap.size := ln.c2.2.2.2.2
            replace ln := ln.alloc (.cells #[.int .i64 0, .int .i64 0, .int .i64 0, .int .i64 0, .int .i64 1, .int .i64 2, .int .i64 3] 3)
            generalize u4.alloc (.cells #[.int .i64 0, .int .i64 0, .int .i64 0, .int .i64 0, .int .i64 1, .int .i64 2, .int .i64 3] 3) = u5 at *
            generalize u4.heap.size = JB at *
            have s := (And.intro (And.intro (And.intro ln.c1.1 ln.c1.2.1) (And.intro ln.c2.1 ln.c2.2.1)) litA)
            refine hKK.out _ _ s (fun hHeld => ?_)
            clear hKK KK hHeld
            try simp only [Act.put, List.setIfInBounds_toArray, List.set_cons_zero, List.set_cons_succ]
            clear s
            have s := (And.intro (And.intro (And.intro (And.intro ln.c1.1 ln.c1.2.1) (And.intro ln.c2.1 ln.c2.2.1)) litA) litB)
            refine wpAnyH_strong (S' := (fun w' => (((w'.cell? ⟨K1, 0, none⟩ = some (.int .i64 x1) ∧ w'.cell? ⟨K1, 1, none⟩ = some (.int .i64 y1)) ∧ (w'.cell? ⟨K2, 0, none⟩ = some (.int .i64 x2) ∧ w'.cell? ⟨K2, 1, none⟩ = some (.int .i64 y2))) ∧ (LitAt w' JA [1 + (p : Int), 0, 401, 1])) ∧ (LitAt w' JB [0, 0, 0, 0, 1, 2, 3]))) (fun _ h => h.1) ?_
            have hHeld := s
            refine wpAnyH_take (i := 9) (v := ?vr1y16x9) nth9 (by kernel_rfl) (by kernel_rfl) (by kernel_rfl) (fun _ _ _ h => h) (Or.inl ⟨by rfl, ?hyr1y16x9⟩) hHeld ?_
            case hyr1y16x9 => (intro wH hSw; (try dsimp only at hSw); go_simp; (try with_reducible rfl))
            simp only [Act.put, List.setIfInBounds_toArray, List.set_cons_zero, List.set_cons_succ]
            refine wpAnyH_take (i := 10) (v := .int .i64 (ix : Int)) nth10 (by kernel_rfl) (by kernel_rfl) (by kernel_rfl) (fun _ _ _ h => h) (Or.inl ⟨by rfl, ?hyr1y17x10⟩) hHeld ?_
            case hyr1y17x10 => (intro wH hSw; have hc := hSw.2 t (by simp; omega); rw [ix1] at hc; clear hSw; go_simp)
            simp only [Act.put, List.setIfInBounds_toArray, List.set_cons_zero, List.set_cons_succ]
            refine wpAnyH_take (i := 11) (v := ?vr1y18x11) nth11 (by kernel_rfl) (by kernel_rfl) (by kernel_rfl) (fun _ _ _ h => h) (Or.inl ⟨by rfl, ?hyr1y18x11⟩) hHeld ?_
            case hyr1y18x11 => (intro wH hSw; (try dsimp only at hSw); go_simp; (try with_reducible rfl))
            simp only [Act.put, List.setIfInBounds_toArray, List.set_cons_zero, List.set_cons_succ]
            refine wpAnyH_take (i := 12) (v := .int .i64 n) nth12 (by kernel_rfl) (by kernel_rfl) (by kernel_rfl) (fun _ _ _ h => h) (Or.inl ⟨by rfl, ?hyr1y19x12⟩) hHeld ?_
            case hyr1y19x12 => (intro wH hSw; have hc := hSw.1.2 ix (by simp; omega); rw [hn] at hc; clear hSw; go_simp)
            simp only [Act.put, List.setIfInBounds_toArray, List.set_cons_zero, List.set_cons_succ]
            refine wpAnyH_ready (rs := [14]) (by kernel_rfl) (by simp) ?_
            refine AllReadyH.cons nth14 (fun KK hKK => ?_) ?_
            · clear hHeld s
              obtain ⟨a1, a2, a3, a4, a5⟩ := ln.s2
              go_simp
              clear a1 a2 a3 a4 a5
              replace litA := (litA.set (.int .i64 x2) (j := w.heap.size + 1) (o := 0) (by omega)).set (.int .i64 y2) (j := w.heap.size + 1) (o := 1) (by omega)
              replace szA : JA < ((u5.setCell ⟨w.heap.size + 1, 0, none⟩ (.int .i64 x2)).setCell ⟨w.heap.size + 1, 1, none⟩ (.int .i64 y2)).heap.size := by simpa [World.setCell] using szA
              replace litB := (litB.set (.int .i64 x2) (j := w.heap.size + 1) (o := 0) (by omega)).set (.int .i64 y2) (j := w.heap.size + 1) (o := 1) (by omega)
              replace szB : JB < ((u5.setCell ⟨w.heap.size + 1, 0, none⟩ (.int .i64 x2)).setCell ⟨w.heap.size + 1, 1, none⟩ (.int .i64 y2)).heap.size := by simpa [World.setCell] using szB
              replace ln := ln.put2 x2 y2
              generalize ((u5.setCell ⟨w.heap.size + 1, 0, none⟩ (.int .i64 x2)).setCell ⟨w.heap.size + 1, 1, none⟩ (.int .i64 y2)) = u6 at *
              have s := (And.intro (And.intro (And.intro (And.intro ln.c1.1 ln.c1.2.1) (And.intro ln.c2.1 ln.c2.2.1)) litA) litB)
              refine hKK.out _ _ s (fun hHeld => ?_)
              clear hKK KK hHeld
              try simp only [Act.put, List.setIfInBounds_toArray, List.set_cons_zero, List.set_cons_succ]
              have hHeld := s
              refine wpAnyH_take (i := 15) (v := ?vr1y20x15) nth15 (by kernel_rfl) (by kernel_rfl) (by kernel_rfl) (fun _ _ _ h => h) (Or.inl ⟨by rfl, ?hyr1y20x15⟩) hHeld ?_
              case hyr1y20x15 => (intro wH hSw; (try dsimp only at hSw); go_simp; (try with_reducible rfl))
              simp only [Act.put, List.setIfInBounds_toArray, List.set_cons_zero, List.set_cons_succ]
              refine wpAnyH_done (by kernel_rfl) ?_ _
              clear hHeld s
              obtain ⟨a1, a2, a3, a4, a5⟩ := ln.s1
              obtain ⟨a6, a7, a8, a9, a10⟩ := ln.s2
              go_wp2_with fail
              exact bodyPost_ret (v := .tuple #[.agg #[.int .i64 x1, .int .i64 y1], .agg #[.int .i64 x2, .int .i64 y2], .int .i64 n]) (by simp [results, Try.results13, go_sem, a1, a2, a6, a7]) rfl ⟨x1, y1, x2, y2, n, rfl, ln.q⟩
            exact AllReadyH.nil
          refine AllReadyH.cons nth14 (fun KK hKK => ?_) ?_
          · clear hHeld s
            obtain ⟨a1, a2, a3, a4, a5⟩ := ln.s2
            go_simp
            clear a1 a2 a3 a4 a5
            replace litA := (litA.set (.int .i64 x2) (j := w.heap.size + 1) (o := 0) (by omega)).set (.int .i64 y2) (j := w.heap.size + 1) (o := 1) (by omega)
            replace szA : JA < ((u4.setCell ⟨w.heap.size + 1, 0, none⟩ (.int .i64 x2)).setCell ⟨w.heap.size + 1, 1, none⟩ (.int .i64 y2)).heap.size := by simpa [World.setCell] using szA
            replace ln := ln.put2 x2 y2
            generalize ((u4.setCell ⟨w.heap.size + 1, 0, none⟩ (.int .i64 x2)).setCell ⟨w.heap.size + 1, 1, none⟩ (.int .i64 y2)) = u5 at *
            have s := (And.intro (And.intro (And.intro ln.c1.1 ln.c1.2.1) (And.intro ln.c2.1 ln.c2.2.1)) litA)
            refine hKK.out _ _ s (fun hHeld => ?_)
            clear hKK KK hHeld
            try simp only [Act.put, List.setIfInBounds_toArray, List.set_cons_zero, List.set_cons_succ]
            have hHeld := s
            refine wpAnyH_ready (rs := [6]) (by kernel_rfl) (by simp) ?_
            refine AllReadyH.cons nth6 (fun KK hKK => ?_) ?_
            · clear hHeld s
              go_simp
              have litB : LitAt (u5.alloc (.cells #[.int .i64 0, .int .i64 0, .int .i64 0, .int .i64 0, .int .i64 1, .int .i64 2, .int .i64 3] 3)) u5.heap.size [0, 0, 0, 0, 1, 2, 3] := LitAt.new u5 [0, 0, 0, 0, 1, 2, 3] 3
              have szB : u5.heap.size < (u5.alloc (.cells #[.int .i64 0, .int .i64 0, .int .i64 0, .int .i64 0, .int .i64 1, .int .i64 2, .int .i64 3] 3)).heap.size := by simp
              replace litA := litA.alloc szA (.cells #[.int .i64 0, .int .i64 0, .int .i64 0, .int .i64 0, .int .i64 1, .int .i64 2, .int .i64 3] 3)
              replace szA : JA < (u5.alloc (.cells #[.int .i64 0, .int .i64 0, .int .i64 0, .int .i64 0, .int .i64 1, .int .i64 2, .int .i64 3] 3)).heap.size := by simp; omega
              have gtB : K2 < u5.heap.size := ln.c2.2.2.2.2
              replace ln := ln.alloc (.cells #[.int .i64 0, .int .i64 0, .int .i64 0, .int .i64 0, .int .i64 1, .int .i64 2, .int .i64 3] 3)
              generalize u5.alloc (.cells #[.int .i64 0, .int .i64 0, .int .i64 0, .int .i64 0, .int .i64 1, .int .i64 2, .int .i64 3] 3) = u6 at *
              generalize u5.heap.size = JB at *
              have s := (And.intro (And.intro (And.intro ln.c1.1 ln.c1.2.1) (And.intro ln.c2.1 ln.c2.2.1)) litA)
              refine hKK.out _ _ s (fun hHeld => ?_)
              clear hKK KK hHeld
              try simp only [Act.put, List.setIfInBounds_toArray, List.set_cons_zero, List.set_cons_succ]
              clear s
              have s := (And.intro (And.intro (And.intro (And.intro ln.c1.1 ln.c1.2.1) (And.intro ln.c2.1 ln.c2.2.1)) litA) litB)
              refine wpAnyH_strong (S' := (fun w' => (((w'.cell? ⟨K1, 0, none⟩ = some (.int .i64 x1) ∧ w'.cell? ⟨K1, 1, none⟩ = some (.int .i64 y1)) ∧ (w'.cell? ⟨K2, 0, none⟩ = some (.int .i64 x2) ∧ w'.cell? ⟨K2, 1, none⟩ = some (.int .i64 y2))) ∧ (LitAt w' JA [1 + (p : Int), 0, 401, 1])) ∧ (LitAt w' JB [0, 0, 0, 0, 1, 2, 3]))) (fun _ h => h.1) ?_
              have hHeld := s
              refine wpAnyH_take (i := 9) (v := ?vr1y21x9) nth9 (by kernel_rfl) (by kernel_rfl) (by kernel_rfl) (fun _ _ _ h => h) (Or.inl ⟨by rfl, ?hyr1y21x9⟩) hHeld ?_
              case hyr1y21x9 => (intro wH hSw; (try dsimp only at hSw); go_simp; (try with_reducible rfl))
              simp only [Act.put, List.setIfInBounds_toArray, List.set_cons_zero, List.set_cons_succ]
              refine wpAnyH_take (i := 10) (v := .int .i64 (ix : Int)) nth10 (by kernel_rfl) (by kernel_rfl) (by kernel_rfl) (fun _ _ _ h => h) (Or.inl ⟨by rfl, ?hyr1y22x10⟩) hHeld ?_
              case hyr1y22x10 => (intro wH hSw; have hc := hSw.2 t (by simp; omega); rw [ix1] at hc; clear hSw; go_simp)
              simp only [Act.put, List.setIfInBounds_toArray, List.set_cons_zero, List.set_cons_succ]
              refine wpAnyH_take (i := 11) (v := ?vr1y23x11) nth11 (by kernel_rfl) (by kernel_rfl) (by kernel_rfl) (fun _ _ _ h => h) (Or.inl ⟨by rfl, ?hyr1y23x11⟩) hHeld ?_
              case hyr1y23x11 => (intro wH hSw; (try dsimp only at hSw); go_simp; (try with_reducible rfl))
              simp only [Act.put, List.setIfInBounds_toArray, List.set_cons_zero, List.set_cons_succ]
              refine wpAnyH_take (i := 12) (v := .int .i64 n) nth12 (by kernel_rfl) (by kernel_rfl) (by kernel_rfl) (fun _ _ _ h => h) (Or.inl ⟨by rfl, ?hyr1y24x12⟩) hHeld ?_
              case hyr1y24x12 => (intro wH hSw; have hc := hSw.1.2 ix (by simp; omega); rw [hn] at hc; clear hSw; go_simp)
              simp only [Act.put, List.setIfInBounds_toArray, List.set_cons_zero, List.set_cons_succ]
              refine wpAnyH_take (i := 15) (v := ?vr1y25x15) nth15 (by kernel_rfl) (by kernel_rfl) (by kernel_rfl) (fun _ _ _ h => h) (Or.inl ⟨by rfl, ?hyr1y25x15⟩) hHeld ?_
              case hyr1y25x15 => (intro wH hSw; (try dsimp only at hSw); go_simp; (try with_reducible rfl))
              simp only [Act.put, List.setIfInBounds_toArray, List.set_cons_zero, List.set_cons_succ]
              refine wpAnyH_done (by kernel_rfl) ?_ _
              clear hHeld s
              obtain ⟨a1, a2, a3, a4, a5⟩ := ln.s1
              obtain ⟨a6, a7, a8, a9, a10⟩ := ln.s2
              go_wp2_with fail
              exact bodyPost_ret (v := .tuple #[.agg #[.int .i64 x1, .int .i64 y1], .agg #[.int .i64 x2, .int .i64 y2], .int .i64 n]) (by simp [results, Try.results13, go_sem, a1, a2, a6, a7]) rfl ⟨x1, y1, x2, y2, n, rfl, ln.q⟩
            exact AllReadyH.nil
          exact AllReadyH.nil
        exact AllReadyH.nil
      exact AllReadyH.nil
    refine AllReadyH.cons nth6 (fun KK hKK => ?_) ?_
    · clear hHeld s
      go_simp
      have litB : LitAt (u1.alloc (.cells #[.int .i64 0, .int .i64 0, .int .i64 0, .int .i64 0, .int .i64 1, .int .i64 2, .int .i64 3] 3)) u1.heap.size [0, 0, 0, 0, 1, 2, 3] := LitAt.new u1 [0, 0, 0, 0, 1, 2, 3] 3
      have szB : u1.heap.size < (u1.alloc (.cells #[.int .i64 0, .int .i64 0, .int .i64 0, .int .i64 0, .int .i64 1, .int .i64 2, .int .i64 3] 3)).heap.size := by simp
      have gtB : K2 < u1.heap.size := ln.c2.2.2.2.2
      replace ln := ln.alloc (.cells #[.int .i64 0, .int .i64 0, .int .i64 0, .int .i64 0, .int .i64 1, .int .i64 2, .int .i64 3] 3)
      generalize u1.alloc (.cells #[.int .i64 0, .int .i64 0, .int .i64 0, .int .i64 0, .int .i64 1, .int .i64 2, .int .i64 3] 3) = u2 at *
      generalize u1.heap.size = JB at *
      have s := (And.intro (And.intro ln.c1.1 ln.c1.2.1) (And.intro ln.c2.1 ln.c2.2.1))
      refine hKK.out _ _ s (fun hHeld => ?_)
      clear hKK KK hHeld
      try simp only [Act.put, List.setIfInBounds_toArray, List.set_cons_zero, List.set_cons_succ]
      clear s
      have s := (And.intro (And.intro (And.intro ln.c1.1 ln.c1.2.1) (And.intro ln.c2.1 ln.c2.2.1)) litB)
      refine wpAnyH_strong (S' := (fun w' => ((w'.cell? ⟨K1, 0, none⟩ = some (.int .i64 x1) ∧ w'.cell? ⟨K1, 1, none⟩ = some (.int .i64 y1)) ∧ (w'.cell? ⟨K2, 0, none⟩ = some (.int .i64 x2) ∧ w'.cell? ⟨K2, 1, none⟩ = some (.int .i64 y2))) ∧ (LitAt w' JB [0, 0, 0, 0, 1, 2, 3]))) (fun _ h => h.1) ?_
      have hHeld := s
      refine wpAnyH_ready (rs := [5, 8]) (by kernel_rfl) (by simp) ?_
      refine AllReadyH.cons nth5 (fun KK hKK => ?_) ?_
      · clear hHeld s
        go_simp
        have litA : LitAt (u2.alloc (.cells #[.int .i64 (1 + (p : Int)), .int .i64 0, .int .i64 401, .int .i64 1] 3)) u2.heap.size [1 + (p : Int), 0, 401, 1] := LitAt.new u2 [1 + (p : Int), 0, 401, 1] 3
        have szA : u2.heap.size < (u2.alloc (.cells #[.int .i64 (1 + (p : Int)), .int .i64 0, .int .i64 401, .int .i64 1] 3)).heap.size := by simp
        replace litB := litB.alloc szB (.cells #[.int .i64 (1 + (p : Int)), .int .i64 0, .int .i64 401, .int .i64 1] 3)
        replace szB : JB < (u2.alloc (.cells #[.int .i64 (1 + (p : Int)), .int .i64 0, .int .i64 401, .int .i64 1] 3)).heap.size := by simp; omega
        have gtA : K2 < u2.heap.size := ln.c2.2.2.2.2
        replace ln := ln.alloc (.cells #[.int .i64 (1 + (p : Int)), .int .i64 0, .int .i64 401, .int .i64 1] 3)
        generalize u2.alloc (.cells #[.int .i64 (1 + (p : Int)), .int .i64 0, .int .i64 401, .int .i64 1] 3) = u3 at *
        generalize u2.heap.size = JA at *
        have s := (And.intro (And.intro (And.intro ln.c1.1 ln.c1.2.1) (And.intro ln.c2.1 ln.c2.2.1)) litB)
        refine hKK.out _ _ s (fun hHeld => ?_)
        clear hKK KK hHeld
        try simp only [Act.put, List.setIfInBounds_toArray, List.set_cons_zero, List.set_cons_succ]
        clear s
        have s := (And.intro (And.intro (And.intro (And.intro ln.c1.1 ln.c1.2.1) (And.intro ln.c2.1 ln.c2.2.1)) litB) litA)
        refine wpAnyH_strong (S' := (fun w' => (((w'.cell? ⟨K1, 0, none⟩ = some (.int .i64 x1) ∧ w'.cell? ⟨K1, 1, none⟩ = some (.int .i64 y1)) ∧ (w'.cell? ⟨K2, 0, none⟩ = some (.int .i64 x2) ∧ w'.cell? ⟨K2, 1, none⟩ = some (.int .i64 y2))) ∧ (LitAt w' JB [0, 0, 0, 0, 1, 2, 3])) ∧ (LitAt w' JA [1 + (p : Int), 0, 401, 1]))) (fun _ h => h.1) ?_
        have hHeld := s
        refine wpAnyH_ready (rs := [8]) (by kernel_rfl) (by simp) ?_
        refine AllReadyH.cons nth8 (fun KK hKK => ?_) ?_
        · clear hHeld s
          go_simp
          go_at_call 28
          refine (pick_any R 17 _ _ ln.r (by omega) (by omega) (by omega)).mono ?_
          rintro e u4 ⟨t_, tp, tq, rfl, r, b⟩
          replace litB := litB.beside b szB (by omega)
          replace szB := Nat.lt_of_lt_of_le szB b.size
          replace litA := litA.beside b szA (by omega)
          replace szA := Nat.lt_of_lt_of_le szA b.size
          replace ln := ln.beside r b
          clear b r
          obtain ⟨t, rfl⟩ : ∃ t : Nat, t_ = t := ⟨t_.toNat, by omega⟩
          have tl : t < 7 := by omega
          obtain ⟨ix1, ix2⟩ := line_idx t tl
          generalize hix : (([0, 0, 0, 0, 1, 2, 3] : List Int).getD t 0).toNat = ix at ix1 ix2
          clear hix
          have ix3 : (ix : Int) < 4 := by omega
          obtain ⟨n, hn⟩ : ∃ n, ([1 + (p : Int), 0, 401, 1] : List Int).getD ix 0 = n := ⟨_, rfl⟩
          replace ln := ln.fin
          have s := (And.intro (And.intro (And.intro (And.intro ln.c1.1 ln.c1.2.1) (And.intro ln.c2.1 ln.c2.2.1)) litB) litA)
          refine hKK.out _ _ s (fun hHeld => ?_)
          clear hKK KK hHeld
          try simp only [Act.put, List.setIfInBounds_toArray, List.set_cons_zero, List.set_cons_succ]
          have hHeld := s
          refine wpAnyH_take (i := 9) (v := ?vr1y26x9) nth9 (by kernel_rfl) (by kernel_rfl) (by kernel_rfl) (fun _ _ _ h => h) (Or.inl ⟨by rfl, ?hyr1y26x9⟩) hHeld ?_
          case hyr1y26x9 => (intro wH hSw; (try dsimp only at hSw); go_simp; (try with_reducible rfl))
          simp only [Act.put, List.setIfInBounds_toArray, List.set_cons_zero, List.set_cons_succ]
          refine wpAnyH_take (i := 10) (v := .int .i64 (ix : Int)) nth10 (by kernel_rfl) (by kernel_rfl) (by kernel_rfl) (fun _ _ _ h => h) (Or.inl ⟨by rfl, ?hyr1y27x10⟩) hHeld ?_
          case hyr1y27x10 => (intro wH hSw; have hc := hSw.1.2 t (by simp; omega); rw [ix1] at hc; clear hSw; go_simp)
          simp only [Act.put, List.setIfInBounds_toArray, List.set_cons_zero, List.set_cons_succ]
          refine wpAnyH_take (i := 11) (v := ?vr1y28x11) nth11 (by kernel_rfl) (by kernel_rfl) (by kernel_rfl) (fun _ _ _ h => h) (Or.inl ⟨by rfl, ?hyr1y28x11⟩) hHeld ?_
          case hyr1y28x11 => (intro wH hSw; (try dsimp only at hSw); go_simp; (try with_reducible rfl))
          simp only [Act.put, List.setIfInBounds_toArray, List.set_cons_zero, List.set_cons_succ]
          refine wpAnyH_take (i := 12) (v := .int .i64 n) nth12 (by kernel_rfl) (by kernel_rfl) (by kernel_rfl) (fun _ _ _ h => h) (Or.inl ⟨by rfl, ?hyr1y29x12⟩) hHeld ?_
          case hyr1y29x12 => (intro wH hSw; have hc := hSw.2 ix (by simp; omega); rw [hn] at hc; clear hSw; go_simp)
          simp only [Act.put, List.setIfInBounds_toArray, List.set_cons_zero, List.set_cons_succ]
          refine wpAnyH_ready (rs := [13]) (by kernel_rfl) (by simp) ?_
          refine AllReadyH.cons nth13 (fun KK hKK => ?_) ?_
          · clear hHeld s
            obtain ⟨a1, a2, a3, a4, a5⟩ := ln.s1
            go_simp
            clear a1 a2 a3 a4 a5
            replace litB := (litB.set (.int .i64 x1) (j := w.heap.size) (o := 0) (by omega)).set (.int .i64 y1) (j := w.heap.size) (o := 1) (by omega)
            replace szB : JB < ((u4.setCell ⟨w.heap.size, 0, none⟩ (.int .i64 x1)).setCell ⟨w.heap.size, 1, none⟩ (.int .i64 y1)).heap.size := by simpa [World.setCell] using szB
            replace litA := (litA.set (.int .i64 x1) (j := w.heap.size) (o := 0) (by omega)).set (.int .i64 y1) (j := w.heap.size) (o := 1) (by omega)
            replace szA : JA < ((u4.setCell ⟨w.heap.size, 0, none⟩ (.int .i64 x1)).setCell ⟨w.heap.size, 1, none⟩ (.int .i64 y1)).heap.size := by simpa [World.setCell] using szA
            replace ln := ln.put1 x1 y1
            generalize ((u4.setCell ⟨w.heap.size, 0, none⟩ (.int .i64 x1)).setCell ⟨w.heap.size, 1, none⟩ (.int .i64 y1)) = u5 at *
            have s := (And.intro (And.intro (And.intro (And.intro ln.c1.1 ln.c1.2.1) (And.intro ln.c2.1 ln.c2.2.1)) litB) litA)
            refine hKK.out _ _ s (fun hHeld => ?_)
            clear hKK KK hHeld
            try simp only [Act.put, List.setIfInBounds_toArray, List.set_cons_zero, List.set_cons_succ]
            have hHeld := s
            refine wpAnyH_ready (rs := [14]) (by kernel_rfl) (by simp) ?_
            refine AllReadyH.cons nth14 (fun KK hKK => ?_) ?_
            · clear hHeld s
              obtain ⟨a1, a2, a3, a4, a5⟩ := ln.s2
              go_simp
              clear a1 a2 a3 a4 a5
              replace litB := (litB.set (.int .i64 x2) (j := w.heap.size + 1) (o := 0) (by omega)).set (.int .i64 y2) (j := w.heap.size + 1) (o := 1) (by omega)
              replace szB : JB < ((u5.setCell ⟨w.heap.size + 1, 0, none⟩ (.int .i64 x2)).setCell ⟨w.heap.size + 1, 1, none⟩ (.int .i64 y2)).heap.size := by simpa [World.setCell] using szB
              replace litA := (litA.set (.int .i64 x2) (j := w.heap.size + 1) (o := 0) (by omega)).set (.int .i64 y2) (j := w.heap.size + 1) (o := 1) (by omega)
              replace szA : JA < ((u5.setCell ⟨w.heap.size + 1, 0, none⟩ (.int .i64 x2)).setCell ⟨w.heap.size + 1, 1, none⟩ (.int .i64 y2)).heap.size := by simpa [World.setCell] using szA
              replace ln := ln.put2 x2 y2
              generalize ((u5.setCell ⟨w.heap.size + 1, 0, none⟩ (.int .i64 x2)).setCell ⟨w.heap.size + 1, 1, none⟩ (.int .i64 y2)) = u6 at *
              have s := (And.intro (And.intro (And.intro (And.intro ln.c1.1 ln.c1.2.1) (And.intro ln.c2.1 ln.c2.2.1)) litB) litA)
              refine hKK.out _ _ s (fun hHeld => ?_)
              clear hKK KK hHeld
              try simp only [Act.put, List.setIfInBounds_toArray, List.set_cons_zero, List.set_cons_succ]
              have hHeld := s
              refine wpAnyH_take (i := 15) (v := ?vr1y30x15) nth15 (by kernel_rfl) (by kernel_rfl) (by kernel_rfl) (fun _ _ _ h => h) (Or.inl ⟨by rfl, ?hyr1y30x15⟩) hHeld ?_
              case hyr1y30x15 => (intro wH hSw; (try dsimp only at hSw); go_simp; (try with_reducible rfl))
              simp only [Act.put, List.setIfInBounds_toArray, List.set_cons_zero, List.set_cons_succ]
              refine wpAnyH_done (by kernel_rfl) ?_ _
              clear hHeld s
              obtain ⟨a1, a2, a3, a4, a5⟩ := ln.s1
              obtain ⟨a6, a7, a8, a9, a10⟩ := ln.s2
              go_wp2_with fail
              exact bodyPost_ret (v := .tuple #[.agg #[.int .i64 x1, .int .i64 y1], .agg #[.int .i64 x2, .int .i64 y2], .int .i64 n]) (by simp [results, Try.results13, go_sem, a1, a2, a6, a7]) rfl ⟨x1, y1, x2, y2, n, rfl, ln.q⟩
            exact AllReadyH.nil
          exact AllReadyH.nil
        exact AllReadyH.nil
      refine AllReadyH.cons nth8 (fun KK hKK => ?_) ?_
      · clear hHeld s
        go_simp
        go_at_call 28
        refine (pick_any R 17 _ _ ln.r (by omega) (by omega) (by omega)).mono ?_
        rintro e u3 ⟨t_, tp, tq, rfl, r, b⟩
        replace litB := litB.beside b szB (by omega)
        replace szB := Nat.lt_of_lt_of_le szB b.size
        replace ln := ln.beside r b
        clear b r
        obtain ⟨t, rfl⟩ : ∃ t : Nat, t_ = t := ⟨t_.toNat, by omega⟩
        have tl : t < 7 := by omega
        obtain ⟨ix1, ix2⟩ := line_idx t tl
        generalize hix : (([0, 0, 0, 0, 1, 2, 3] : List Int).getD t 0).toNat = ix at ix1 ix2
        clear hix
        have ix3 : (ix : Int) < 4 := by omega
        obtain ⟨n, hn⟩ : ∃ n, ([1 + (p : Int), 0, 401, 1] : List Int).getD ix 0 = n := ⟨_, rfl⟩
        replace ln := ln.fin
        have s := (And.intro (And.intro (And.intro ln.c1.1 ln.c1.2.1) (And.intro ln.c2.1 ln.c2.2.1)) litB)
        refine hKK.out _ _ s (fun hHeld => ?_)
        clear hKK KK hHeld
        try simp only [Act.put, List.setIfInBounds_toArray, List.set_cons_zero, List.set_cons_succ]
        have hHeld := s
        refine wpAnyH_take (i := 9) (v := ?vr1y31x9) nth9 (by kernel_rfl) (by kernel_rfl) (by kernel_rfl) (fun _ _ _ h => h) (Or.inl ⟨by rfl, ?hyr1y31x9⟩) hHeld ?_
        case hyr1y31x9 => (intro wH hSw; (try dsimp only at hSw); go_simp; (try with_reducible rfl))
        simp only [Act.put, List.setIfInBounds_toArray, List.set_cons_zero, List.set_cons_succ]
        refine wpAnyH_take (i := 10) (v := .int .i64 (ix : Int)) nth10 (by kernel_rfl) (by kernel_rfl) (by kernel_rfl) (fun _ _ _ h => h) (Or.inl ⟨by rfl, ?hyr1y32x10⟩) hHeld ?_
        case hyr1y32x10 => (intro wH hSw; have hc := hSw.2 t (by simp; omega); rw [ix1] at hc; clear hSw; go_simp)
        simp only [Act.put, List.setIfInBounds_toArray, List.set_cons_zero, List.set_cons_succ]
        refine wpAnyH_ready (rs := [5, 13]) (by kernel_rfl) (by simp) ?_
        refine AllReadyH.cons nth5 (fun KK hKK => ?_) ?_
        · clear hHeld s
          go_simp
          have litA : LitAt (u3.alloc (.cells #[.int .i64 (1 + (p : Int)), .int .i64 0, .int .i64 401, .int .i64 1] 3)) u3.heap.size [1 + (p : Int), 0, 401, 1] := LitAt.new u3 [1 + (p : Int), 0, 401, 1] 3
          have szA : u3.heap.size < (u3.alloc (.cells #[.int .i64 (1 + (p : Int)), .int .i64 0, .int .i64 401, .int .i64 1] 3)).heap.size := by simp
          replace litB := litB.alloc szB (.cells #[.int .i64 (1 + (p : Int)), .int .i64 0, .int .i64 401, .int .i64 1] 3)
          replace szB : JB < (u3.alloc (.cells #[.int .i64 (1 + (p : Int)), .int .i64 0, .int .i64 401, .int .i64 1] 3)).heap.size := by simp; omega
          have gtA : K2 < u3.heap.size := ln.c2.2.2.2.2
          replace ln := ln.alloc (.cells #[.int .i64 (1 + (p : Int)), .int .i64 0, .int .i64 401, .int .i64 1] 3)
          generalize u3.alloc (.cells #[.int .i64 (1 + (p : Int)), .int .i64 0, .int .i64 401, .int .i64 1] 3) = u4 at *
          generalize u3.heap.size = JA at *
          have s := (And.intro (And.intro (And.intro ln.c1.1 ln.c1.2.1) (And.intro ln.c2.1 ln.c2.2.1)) litB)
          refine hKK.out _ _ s (fun hHeld => ?_)
          clear hKK KK hHeld
          try simp only [Act.put, List.setIfInBounds_toArray, List.set_cons_zero, List.set_cons_succ]
          clear s
          have s := (And.intro (And.intro (And.intro (And.intro ln.c1.1 ln.c1.2.1) (And.intro ln.c2.1 ln.c2.2.1)) litB) litA)
          refine wpAnyH_strong (S' := (fun w' => (((w'.cell? ⟨K1, 0, none⟩ = some (.int .i64 x1) ∧ w'.cell? ⟨K1, 1, none⟩ = some (.int .i64 y1)) ∧ (w'.cell? ⟨K2, 0, none⟩ = some (.int .i64 x2) ∧ w'.cell? ⟨K2, 1, none⟩ = some (.int .i64 y2))) ∧ (LitAt w' JB [0, 0, 0, 0, 1, 2, 3])) ∧ (LitAt w' JA [1 + (p : Int), 0, 401, 1]))) (fun _ h => h.1) ?_
          have hHeld := s
          refine wpAnyH_take (i := 11) (v := ?vr1y33x11) nth11 (by kernel_rfl) (by kernel_rfl) (by kernel_rfl) (fun _ _ _ h => h) (Or.inl ⟨by rfl, ?hyr1y33x11⟩) hHeld ?_
          case hyr1y33x11 => (intro wH hSw; (try dsimp only at hSw); go_simp; (try with_reducible rfl))
          simp only [Act.put, List.setIfInBounds_toArray, List.set_cons_zero, List.set_cons_succ]
          refine wpAnyH_take (i := 12) (v := .int .i64 n) nth12 (by kernel_rfl) (by kernel_rfl) (by kernel_rfl) (fun _ _ _ h => h) (Or.inl ⟨by rfl, ?hyr1y34x12⟩) hHeld ?_
          case hyr1y34x12 => (intro wH hSw; have hc := hSw.2 ix (by simp; omega); rw [hn] at hc; clear hSw; go_simp)
          simp only [Act.put, List.setIfInBounds_toArray, List.set_cons_zero, List.set_cons_succ]
          refine wpAnyH_ready (rs := [13]) (by kernel_rfl) (by simp) ?_
          refine AllReadyH.cons nth13 (fun KK hKK => ?_) ?_
          · clear hHeld s
            obtain ⟨a1, a2, a3, a4, a5⟩ := ln.s1
            go_simp
            clear a1 a2 a3 a4 a5
            replace litB := (litB.set (.int .i64 x1) (j := w.heap.size) (o := 0) (by omega)).set (.int .i64 y1) (j := w.heap.size) (o := 1) (by omega)
            replace szB : JB < ((u4.setCell ⟨w.heap.size, 0, none⟩ (.int .i64 x1)).setCell ⟨w.heap.size, 1, none⟩ (.int .i64 y1)).heap.size := by simpa [World.setCell] using szB
            replace litA := (litA.set (.int .i64 x1) (j := w.heap.size) (o := 0) (by omega)).set (.int .i64 y1) (j := w.heap.size) (o := 1) (by omega)
            replace szA : JA < ((u4.setCell ⟨w.heap.size, 0, none⟩ (.int .i64 x1)).setCell ⟨w.heap.size, 1, none⟩ (.int .i64 y1)).heap.size := by simpa [World.setCell] using szA
            replace ln := ln.put1 x1 y1
            generalize ((u4.setCell ⟨w.heap.size, 0, none⟩ (.int .i64 x1)).setCell ⟨w.heap.size, 1, none⟩ (.int .i64 y1)) = u5 at *
            have s := (And.intro (And.intro (And.intro (And.intro ln.c1.1 ln.c1.2.1) (And.intro ln.c2.1 ln.c2.2.1)) litB) litA)
            refine hKK.out _ _ s (fun hHeld => ?_)
            clear hKK KK hHeld
            try simp only [Act.put, List.setIfInBounds_toArray, List.set_cons_zero, List.set_cons_succ]
            have hHeld := s
            refine wpAnyH_ready (rs := [14]) (by kernel_rfl) (by simp) ?_
            refine AllReadyH.cons nth14 (fun KK hKK => ?_) ?_
            · clear hHeld s
              obtain ⟨a1, a2, a3, a4, a5⟩ := ln.s2
              go_simp
              clear a1 a2 a3 a4 a5
              replace litB := (litB.set (.int .i64 x2) (j := w.heap.size + 1) (o := 0) (by omega)).set (.int .i64 y2) (j := w.heap.size + 1) (o := 1) (by omega)
              replace szB : JB < ((u5.setCell ⟨w.heap.size + 1, 0, none⟩ (.int .i64 x2)).setCell ⟨w.heap.size + 1, 1, none⟩ (.int .i64 y2)).heap.size := by simpa [World.setCell] using szB
              replace litA := (litA.set (.int .i64 x2) (j := w.heap.size + 1) (o := 0) (by omega)).set (.int .i64 y2) (j := w.heap.size + 1) (o := 1) (by omega)
              replace szA : JA < ((u5.setCell ⟨w.heap.size + 1, 0, none⟩ (.int .i64 x2)).setCell ⟨w.heap.size + 1, 1, none⟩ (.int .i64 y2)).heap.size := by simpa [World.setCell] using szA
              replace ln := ln.put2 x2 y2
              generalize ((u5.setCell ⟨w.heap.size + 1, 0, none⟩ (.int .i64 x2)).setCell ⟨w.heap.size + 1, 1, none⟩ (.int .i64 y2)) = u6 at *
              have s := (And.intro (And.intro (And.intro (And.intro ln.c1.1 ln.c1.2.1) (And.intro ln.c2.1 ln.c2.2.1)) litB) litA)
              refine hKK.out _ _ s (fun hHeld => ?_)
              clear hKK KK hHeld
              try simp only [Act.put, List.setIfInBounds_toArray, List.set_cons_zero, List.set_cons_succ]
              have hHeld := s
              refine wpAnyH_take (i := 15) (v := ?vr1y35x15) nth15 (by kernel_rfl) (by kernel_rfl) (by kernel_rfl) (fun _ _ _ h => h) (Or.inl ⟨by rfl, ?hyr1y35x15⟩) hHeld ?_
              case hyr1y35x15 => (intro wH hSw; (try dsimp only at hSw); go_simp; (try with_reducible rfl))
              simp only [Act.put, List.setIfInBounds_toArray, List.set_cons_zero, List.set_cons_succ]
              refine wpAnyH_done (by kernel_rfl) ?_ _
              clear hHeld s
              obtain ⟨a1, a2, a3, a4, a5⟩ := ln.s1
              obtain ⟨a6, a7, a8, a9, a10⟩ := ln.s2
              go_wp2_with fail
              exact bodyPost_ret (v := .tuple #[.agg #[.int .i64 x1, .int .i64 y1], .agg #[.int .i64 x2, .int .i64 y2], .int .i64 n]) (by simp [results, Try.results13, go_sem, a1, a2, a6, a7]) rfl ⟨x1, y1, x2, y2, n, rfl, ln.q⟩
            exact AllReadyH.nil
          exact AllReadyH.nil
        refine AllReadyH.cons nth13 (fun KK hKK => ?_) ?_
        · clear hHeld s
          obtain ⟨a1, a2, a3, a4, a5⟩ := ln.s1
          go_simp
          clear a1 a2 a3 a4 a5
          replace litB := (litB.set (.int .i64 x1) (j := w.heap.size) (o := 0) (by omega)).set (.int .i64 y1) (j := w.heap.size) (o := 1) (by omega)
          replace szB : JB < ((u3.setCell ⟨w.heap.size, 0, none⟩ (.int .i64 x1)).setCell ⟨w.heap.size, 1, none⟩ (.int .i64 y1)).heap.size := by simpa [World.setCell] using szB
          replace ln := ln.put1 x1 y1
          generalize ((u3.setCell ⟨w.heap.size, 0, none⟩ (.int .i64 x1)).setCell ⟨w.heap.size, 1, none⟩ (.int .i64 y1)) = u4 at *
          have s := (And.intro (And.intro (And.intro ln.c1.1 ln.c1.2.1) (And.intro ln.c2.1 ln.c2.2.1)) litB)
          refine hKK.out _ _ s (fun hHeld => ?_)
          clear hKK KK hHeld
          try simp only [Act.put, List.setIfInBounds_toArray, List.set_cons_zero, List.set_cons_succ]
          have hHeld := s
          refine wpAnyH_ready (rs := [5, 14]) (by kernel_rfl) (by simp) ?_
          refine AllReadyH.cons nth5 (fun KK hKK => ?_) ?_
          · clear hHeld s
            go_simp
            have litA : LitAt (u4.alloc (.cells #[.int .i64 (1 + (p : Int)), .int .i64 0, .int .i64 401, .int .i64 1] 3)) u4.heap.size [1 + (p : Int), 0, 401, 1] := LitAt.new u4 [1 + (p : Int), 0, 401, 1] 3
            have szA : u4.heap.size < (u4.alloc (.cells #[.int .i64 (1 + (p : Int)), .int .i64 0, .int .i64 401, .int .i64 1] 3)).heap.size := by simp
            replace litB := litB.alloc szB (.cells #[.int .i64 (1 + (p : Int)), .int .i64 0, .int .i64 401, .int .i64 1] 3)
            replace szB : JB < (u4.alloc (.cells #[.int .i64 (1 + (p : Int)), .int .i64 0, .int .i64 401, .int .i64 1] 3)).heap.size := by simp; omega
            have gtA : K2 < u4.heap.size := ln.c2.2.2.2.2
            replace ln := ln.alloc (.cells #[.int .i64 (1 + (p : Int)), .int .i64 0, .int .i64 401, .int .i64 1] 3)
            generalize u4.alloc (.cells #[.int .i64 (1 + (p : Int)), .int .i64 0, .int .i64 401, .int .i64 1] 3) = u5 at *
            generalize u4.heap.size = JA at *
            have s := (And.intro (And.intro (And.intro ln.c1.1 ln.c1.2.1) (And.intro ln.c2.1 ln.c2.2.1)) litB)
            refine hKK.out _ _ s (fun hHeld => ?_)
            clear hKK KK hHeld
            try simp only [Act.put, List.setIfInBounds_toArray, List.set_cons_zero, List.set_cons_succ]
            clear s
            have s := (And.intro (And.intro (And.intro (And.intro ln.c1.1 ln.c1.2.1) (And.intro ln.c2.1 ln.c2.2.1)) litB) litA)
            refine wpAnyH_strong (S' := (fun w' => (((w'.cell? ⟨K1, 0, none⟩ = some (.int .i64 x1) ∧ w'.cell? ⟨K1, 1, none⟩ = some (.int .i64 y1)) ∧ (w'.cell? ⟨K2, 0, none⟩ = some (.int .i64 x2) ∧ w'.cell? ⟨K2, 1, none⟩ = some (.int .i64 y2))) ∧ (LitAt w' JB [0, 0, 0, 0, 1, 2, 3])) ∧ (LitAt w' JA [1 + (p : Int), 0, 401, 1]))) (fun _ h => h.1) ?_
            have hHeld := s
            refine wpAnyH_take (i := 11) (v := ?vr1y36x11) nth11 (by kernel_rfl) (by kernel_rfl) (by kernel_rfl) (fun _ _ _ h => h) (Or.inl ⟨by rfl, ?hyr1y36x11⟩) hHeld ?_
            case hyr1y36x11 => (intro wH hSw; (try dsimp only at hSw); go_simp; (try with_reducible rfl))
            simp only [Act.put, List.setIfInBounds_toArray, List.set_cons_zero, List.set_cons_succ]
            refine wpAnyH_take (i := 12) (v := .int .i64 n) nth12 (by kernel_rfl) (by kernel_rfl) (by kernel_rfl) (fun _ _ _ h => h) (Or.inl ⟨by rfl, ?hyr1y37x12⟩) hHeld ?_
            case hyr1y37x12 => (intro wH hSw; have hc := hSw.2 ix (by simp; omega); rw [hn] at hc; clear hSw; go_simp)
            simp only [Act.put, List.setIfInBounds_toArray, List.set_cons_zero, List.set_cons_succ]
            refine wpAnyH_ready (rs := [14]) (by kernel_rfl) (by simp) ?_
            refine AllReadyH.cons nth14 (fun KK hKK => ?_) ?_
            · clear hHeld s
              obtain ⟨a1, a2, a3, a4, a5⟩ := ln.s2
              go_simp
              clear a1 a2 a3 a4 a5
              replace litB := (litB.set (.int .i64 x2) (j := w.heap.size + 1) (o := 0) (by omega)).set (.int .i64 y2) (j := w.heap.size + 1) (o := 1) (by omega)
              replace szB : JB < ((u5.setCell ⟨w.heap.size + 1, 0, none⟩ (.int .i64 x2)).setCell ⟨w.heap.size + 1, 1, none⟩ (.int .i64 y2)).heap.size := by simpa [World.setCell] using szB
              replace litA := (litA.set (.int .i64 x2) (j := w.heap.size + 1) (o := 0) (by omega)).set (.int .i64 y2) (j := w.heap.size + 1) (o := 1) (by omega)
              replace szA : JA < ((u5.setCell ⟨w.heap.size + 1, 0, none⟩ (.int .i64 x2)).setCell ⟨w.heap.size + 1, 1, none⟩ (.int .i64 y2)).heap.size := by simpa [World.setCell] using szA
              replace ln := ln.put2 x2 y2
              generalize ((u5.setCell ⟨w.heap.size + 1, 0, none⟩ (.int .i64 x2)).setCell ⟨w.heap.size + 1, 1, none⟩ (.int .i64 y2)) = u6 at *
              have s := (And.intro (And.intro (And.intro (And.intro ln.c1.1 ln.c1.2.1) (And.intro ln.c2.1 ln.c2.2.1)) litB) litA)
              refine hKK.out _ _ s (fun hHeld => ?_)
              clear hKK KK hHeld
              try simp only [Act.put, List.setIfInBounds_toArray, List.set_cons_zero, List.set_cons_succ]
              have hHeld := s
              refine wpAnyH_take (i := 15) (v := ?vr1y38x15) nth15 (by kernel_rfl) (by kernel_rfl) (by kernel_rfl) (fun _ _ _ h => h) (Or.inl ⟨by rfl, ?hyr1y38x15⟩) hHeld ?_
              case hyr1y38x15 => (intro wH hSw; (try dsimp only at hSw); go_simp; (try with_reducible rfl))
              simp only [Act.put, List.setIfInBounds_toArray, List.set_cons_zero, List.set_cons_succ]
              refine wpAnyH_done (by kernel_rfl) ?_ _
              clear hHeld s
              obtain ⟨a1, a2, a3, a4, a5⟩ := ln.s1
              obtain ⟨a6, a7, a8, a9, a10⟩ := ln.s2
              go_wp2_with fail
              exact bodyPost_ret (v := .tuple #[.agg #[.int .i64 x1, .int .i64 y1], .agg #[.int .i64 x2, .int .i64 y2], .int .i64 n]) (by simp [results, Try.results13, go_sem, a1, a2, a6, a7]) rfl ⟨x1, y1, x2, y2, n, rfl, ln.q⟩
            exact AllReadyH.nil
          refine AllReadyH.cons nth14 (fun KK hKK => ?_) ?_
          · clear hHeld s
            obtain ⟨a1, a2, a3, a4, a5⟩ := ln.s2
            go_simp
            clear a1 a2 a3 a4 a5
            replace litB := (litB.set (.int .i64 x2) (j := w.heap.size + 1) (o := 0) (by omega)).set (.int .i64 y2) (j := w.heap.size + 1) (o := 1) (by omega)
            replace szB : JB < ((u4.setCell ⟨w.heap.size + 1, 0, none⟩ (.int .i64 x2)).setCell ⟨w.heap.size + 1, 1, none⟩ (.int .i64 y2)).heap.size := by simpa [World.setCell] using szB
            replace ln := ln.put2 x2 y2
            generalize ((u4.setCell ⟨w.heap.size + 1, 0, none⟩ (.int .i64 x2)).setCell ⟨w.heap.size + 1, 1, none⟩ (.int .i64 y2)) = u5 at *
            have s := (And.intro (And.intro (And.intro ln.c1.1 ln.c1.2.1) (And.intro ln.c2.1 ln.c2.2.1)) litB)
            refine hKK.out _ _ s (fun hHeld => ?_)
            clear hKK KK hHeld
            try simp only [Act.put, List.setIfInBounds_toArray, List.set_cons_zero, List.set_cons_succ]
            have hHeld := s
            refine wpAnyH_ready (rs := [5]) (by kernel_rfl) (by simp) ?_
            refine AllReadyH.cons nth5 (fun KK hKK => ?_) ?_
            · clear hHeld s
              go_simp
              have litA : LitAt (u5.alloc (.cells #[.int .i64 (1 + (p : Int)), .int .i64 0, .int .i64 401, .int .i64 1] 3)) u5.heap.size [1 + (p : Int), 0, 401, 1] := LitAt.new u5 [1 + (p : Int), 0, 401, 1] 3
              have szA : u5.heap.size < (u5.alloc (.cells #[.int .i64 (1 + (p : Int)), .int .i64 0, .int .i64 401, .int .i64 1] 3)).heap.size := by simp
              replace litB := litB.alloc szB (.cells #[.int .i64 (1 + (p : Int)), .int .i64 0, .int .i64 401, .int .i64 1] 3)
              replace szB : JB < (u5.alloc (.cells #[.int .i64 (1 + (p : Int)), .int .i64 0, .int .i64 401, .int .i64 1] 3)).heap.size := by simp; omega
              have gtA : K2 < u5.heap.size := ln.c2.2.2.2.2
              replace ln := ln.alloc (.cells #[.int .i64 (1 + (p : Int)), .int .i64 0, .int .i64 401, .int .i64 1] 3)
              generalize u5.alloc (.cells #[.int .i64 (1 + (p : Int)), .int .i64 0, .int .i64 401, .int .i64 1] 3) = u6 at *
              generalize u5.heap.size = JA at *
              have s := (And.intro (And.intro (And.intro ln.c1.1 ln.c1.2.1) (And.intro ln.c2.1 ln.c2.2.1)) litB)
              refine hKK.out _ _ s (fun hHeld => ?_)
              clear hKK KK hHeld
              try simp only [Act.put, List.setIfInBounds_toArray, List.set_cons_zero, List.set_cons_succ]
              clear s
              have s := (And.intro (And.intro (And.intro (And.intro ln.c1.1 ln.c1.2.1) (And.intro ln.c2.1 ln.c2.2.1)) litB) litA)
              refine wpAnyH_strong (S' := (fun w' => (((w'.cell? ⟨K1, 0, none⟩ = some (.int .i64 x1) ∧ w'.cell? ⟨K1, 1, none⟩ = some (.int .i64 y1)) ∧ (w'.cell? ⟨K2, 0, none⟩ = some (.int .i64 x2) ∧ w'.cell? ⟨K2, 1, none⟩ = some (.int .i64 y2))) ∧ (LitAt w' JB [0, 0, 0, 0, 1, 2, 3])) ∧ (LitAt w' JA [1 + (p : Int), 0, 401, 1]))) (fun _ h => h.1) ?_
              have hHeld := s
              refine wpAnyH_take (i := 11) (v := ?vr1y39x11) nth11 (by kernel_rfl) (by kernel_rfl) (by kernel_rfl) (fun _ _ _ h => h) (Or.inl ⟨by rfl, ?hyr1y39x11⟩) hHeld ?_
              case hyr1y39x11 => (intro wH hSw; (try dsimp only at hSw); go_simp; (try with_reducible rfl))
              simp only [Act.put, List.setIfInBounds_toArray, List.set_cons_zero, List.set_cons_succ]
              refine wpAnyH_take (i := 12) (v := .int .i64 n) nth12 (by kernel_rfl) (by kernel_rfl) (by kernel_rfl) (fun _ _ _ h => h) (Or.inl ⟨by rfl, ?hyr1y40x12⟩) hHeld ?_
              case hyr1y40x12 => (intro wH hSw; have hc := hSw.2 ix (by simp; omega); rw [hn] at hc; clear hSw; go_simp)
              simp only [Act.put, List.setIfInBounds_toArray, List.set_cons_zero, List.set_cons_succ]
              refine wpAnyH_take (i := 15) (v := ?vr1y41x15) nth15 (by kernel_rfl) (by kernel_rfl) (by kernel_rfl) (fun _ _ _ h => h) (Or.inl ⟨by rfl, ?hyr1y41x15⟩) hHeld ?_
              case hyr1y41x15 => (intro wH hSw; (try dsimp only at hSw); go_simp; (try with_reducible rfl))
              simp only [Act.put, List.setIfInBounds_toArray, List.set_cons_zero, List.set_cons_succ]
              refine wpAnyH_done (by kernel_rfl) ?_ _
              clear hHeld s
              obtain ⟨a1, a2, a3, a4, a5⟩ := ln.s1
              obtain ⟨a6, a7, a8, a9, a10⟩ := ln.s2
              go_wp2_with fail
              exact bodyPost_ret (v := .tuple #[.agg #[.int .i64 x1, .int .i64 y1], .agg #[.int .i64 x2, .int .i64 y2], .int .i64 n]) (by simp [results, Try.results13, go_sem, a1, a2, a6, a7]) rfl ⟨x1, y1, x2, y2, n, rfl, ln.q⟩
            exact AllReadyH.nil
          exact AllReadyH.nil
        exact AllReadyH.nil
      exact AllReadyH.nil
    refine AllReadyH.cons nth8 (fun KK hKK => ?_) ?_
    · clear hHeld s
      go_simp
      go_at_call 28
      refine (pick_any R 17 _ _ ln.r (by omega) (by omega) (by omega)).mono ?_
      rintro e u2 ⟨t_, tp, tq, rfl, r, b⟩
      replace ln := ln.beside r b
      clear b r
      obtain ⟨t, rfl⟩ : ∃ t : Nat, t_ = t := ⟨t_.toNat, by omega⟩
      have tl : t < 7 := by omega
      obtain ⟨ix1, ix2⟩ := line_idx t tl
      generalize hix : (([0, 0, 0, 0, 1, 2, 3] : List Int).getD t 0).toNat = ix at ix1 ix2
      clear hix
      have ix3 : (ix : Int) < 4 := by omega
      obtain ⟨n, hn⟩ : ∃ n, ([1 + (p : Int), 0, 401, 1] : List Int).getD ix 0 = n := ⟨_, rfl⟩
      replace ln := ln.fin
      have s := (And.intro (And.intro ln.c1.1 ln.c1.2.1) (And.intro ln.c2.1 ln.c2.2.1))
      refine hKK.out _ _ s (fun hHeld => ?_)
      clear hKK KK hHeld
      try simp only [Act.put, List.setIfInBounds_toArray, List.set_cons_zero, List.set_cons_succ]
      have hHeld := s
      refine wpAnyH_ready (rs := [5, 6, 13]) (by kernel_rfl) (by simp) ?_
      refine AllReadyH.cons nth5 (fun KK hKK => ?_) ?_
      · clear hHeld s
        go_simp
        have litA : LitAt (u2.alloc (.cells #[.int .i64 (1 + (p : Int)), .int .i64 0, .int .i64 401, .int .i64 1] 3)) u2.heap.size [1 + (p : Int), 0, 401, 1] := LitAt.new u2 [1 + (p : Int), 0, 401, 1] 3
        have szA : u2.heap.size < (u2.alloc (.cells #[.int .i64 (1 + (p : Int)), .int .i64 0, .int .i64 401, .int .i64 1] 3)).heap.size := by simp
        have gtA : K2 < u2.heap.size := ln.c2.2.2.2.2
        replace ln := ln.alloc (.cells #[.int .i64 (1 + (p : Int)), .int .i64 0, .int .i64 401, .int .i64 1] 3)
        generalize u2.alloc (.cells #[.int .i64 (1 + (p : Int)), .int .i64 0, .int .i64 401, .int .i64 1] 3) = u3 at *
        generalize u2.heap.size = JA at *
        have s := (And.intro (And.intro ln.c1.1 ln.c1.2.1) (And.intro ln.c2.1 ln.c2.2.1))
        refine hKK.out _ _ s (fun hHeld => ?_)
        clear hKK KK hHeld
        try simp only [Act.put, List.setIfInBounds_toArray, List.set_cons_zero, List.set_cons_succ]
        clear s
        have s := (And.intro (And.intro (And.intro ln.c1.1 ln.c1.2.1) (And.intro ln.c2.1 ln.c2.2.1)) litA)
        refine wpAnyH_strong (S' := (fun w' => ((w'.cell? ⟨K1, 0, none⟩ = some (.int .i64 x1) ∧ w'.cell? ⟨K1, 1, none⟩ = some (.int .i64 y1)) ∧ (w'.cell? ⟨K2, 0, none⟩ = some (.int .i64 x2) ∧ w'.cell? ⟨K2, 1, none⟩ = some (.int .i64 y2))) ∧ (LitAt w' JA [1 + (p : Int), 0, 401, 1]))) (fun _ h => h.1) ?_
        have hHeld := s
        refine wpAnyH_ready (rs := [6, 13]) (by kernel_rfl) (by simp) ?_
        refine AllReadyH.cons nth6 (fun KK hKK => ?_) ?_
        · clear hHeld s
          go_simp
          have litB : LitAt (u3.alloc (.cells #[.int .i64 0, .int .i64 0, .int .i64 0, .int .i64 0, .int .i64 1, .int .i64 2, .int .i64 3] 3)) u3.heap.size [0, 0, 0, 0, 1, 2, 3] := LitAt.new u3 [0, 0, 0, 0, 1, 2, 3] 3
          have szB : u3.heap.size < (u3.alloc (.cells #[.int .i64 0, .int .i64 0, .int .i64 0, .int .i64 0, .int .i64 1, .int .i64 2, .int .i64 3] 3)).heap.size := by simp
          replace litA := litA.alloc szA (.cells #[.int .i64 0, .int .i64 0, .int .i64 0, .int .i64 0, .int .i64 1, .int .i64 2, .int .i64 3] 3)
          replace szA : JA < (u3.alloc (.cells #[.int .i64 0, .int .i64 0, .int .i64 0, .int .i64 0, .int .i64 1, .int .i64 2, .int .i64 3] 3)).heap.size := by simp; omega
          have gtB : K2 < u3.heap.size := ln.c2.2.2.2.2
          replace ln := ln.alloc (.cells #[.int .i64 0, .int .i64 0, .int .i64 0, .int .i64 0, .int .i64 1, .int .i64 2, .int .i64 3] 3)
          generalize u3.alloc (.cells #[.int .i64 0, .int .i64 0, .int .i64 0, .int .i64 0, .int .i64 1, .int .i64 2, .int .i64 3] 3) = u4 at *
          generalize u3.heap.size = JB at *
          have s := (And.intro (And.intro (And.intro ln.c1.1 ln.c1.2.1) (And.intro ln.c2.1 ln.c2.2.1)) litA)
          refine hKK.out _ _ s (fun hHeld => ?_)
          clear hKK KK hHeld
          try simp only [Act.put, List.setIfInBounds_toArray, List.set_cons_zero, List.set_cons_succ]
          clear s
          have s := (And.intro (And.intro (And.intro (And.intro ln.c1.1 ln.c1.2.1) (And.intro ln.c2.1 ln.c2.2.1)) litA) litB)
          refine wpAnyH_strong (S' := (fun w' => (((w'.cell? ⟨K1, 0, none⟩ = some (.int .i64 x1) ∧ w'.cell? ⟨K1, 1, none⟩ = some (.int .i64 y1)) ∧ (w'.cell? ⟨K2, 0, none⟩ = some (.int .i64 x2) ∧ w'.cell? ⟨K2, 1, none⟩ = some (.int .i64 y2))) ∧ (LitAt w' JA [1 + (p : Int), 0, 401, 1])) ∧ (LitAt w' JB [0, 0, 0, 0, 1, 2, 3]))) (fun _ h => h.1) ?_
          have hHeld := s
          refine wpAnyH_take (i := 9) (v := ?vr1y42x9) nth9 (by kernel_rfl) (by kernel_rfl) (by kernel_rfl) (fun _ _ _ h => h) (Or.inl ⟨by rfl, ?hyr1y42x9⟩) hHeld ?_
          case hyr1y42x9 => (intro wH hSw; (try dsimp only at hSw); go_simp; (try with_reducible rfl))
          simp only [Act.put, List.setIfInBounds_toArray, List.set_cons_zero, List.set_cons_succ]
          refine wpAnyH_take (i := 10) (v := .int .i64 (ix : Int)) nth10 (by kernel_rfl) (by kernel_rfl) (by kernel_rfl) (fun _ _ _ h => h) (Or.inl ⟨by rfl, ?hyr1y43x10⟩) hHeld ?_
          case hyr1y43x10 => (intro wH hSw; have hc := hSw.2 t (by simp; omega); rw [ix1] at hc; clear hSw; go_simp)
          simp only [Act.put, List.setIfInBounds_toArray, List.set_cons_zero, List.set_cons_succ]
          refine wpAnyH_take (i := 11) (v := ?vr1y44x11) nth11 (by kernel_rfl) (by kernel_rfl) (by kernel_rfl) (fun _ _ _ h => h) (Or.inl ⟨by rfl, ?hyr1y44x11⟩) hHeld ?_
          case hyr1y44x11 => (intro wH hSw; (try dsimp only at hSw); go_simp; (try with_reducible rfl))
          simp only [Act.put, List.setIfInBounds_toArray, List.set_cons_zero, List.set_cons_succ]
          refine wpAnyH_take (i := 12) (v := .int .i64 n) nth12 (by kernel_rfl) (by kernel_rfl) (by kernel_rfl) (fun _ _ _ h => h) (Or.inl ⟨by rfl, ?hyr1y45x12⟩) hHeld ?_
          case hyr1y45x12 => (intro wH hSw; have hc := hSw.1.2 ix (by simp; omega); rw [hn] at hc; clear hSw; go_simp)
          simp only [Act.put, List.setIfInBounds_toArray, List.set_cons_zero, List.set_cons_succ]
          refine wpAnyH_ready (rs := [13]) (by kernel_rfl) (by simp) ?_
          refine AllReadyH.cons nth13 (fun KK hKK => ?_) ?_
          · clear hHeld s
            obtain ⟨a1, a2, a3, a4, a5⟩ := ln.s1
            go_simp
            clear a1 a2 a3 a4 a5
            replace litA := (litA.set (.int .i64 x1) (j := w.heap.size) (o := 0) (by omega)).set (.int .i64 y1) (j := w.heap.size) (o := 1) (by omega)
            replace szA : JA < ((u4.setCell ⟨w.heap.size, 0, none⟩ (.int .i64 x1)).setCell ⟨w.heap.size, 1, none⟩ (.int .i64 y1)).heap.size := by simpa [World.setCell] using szA
            replace litB := (litB.set (.int .i64 x1) (j := w.heap.size) (o := 0) (by omega)).set (.int .i64 y1) (j := w.heap.size) (o := 1) (by omega)
            replace szB : JB < ((u4.setCell ⟨w.heap.size, 0, none⟩ (.int .i64 x1)).setCell ⟨w.heap.size, 1, none⟩ (.int .i64 y1)).heap.size := by simpa [World.setCell] using szB
            replace ln := ln.put1 x1 y1
            generalize ((u4.setCell ⟨w.heap.size, 0, none⟩ (.int .i64 x1)).setCell ⟨w.heap.size, 1, none⟩ (.int .i64 y1)) = u5 at *
            have s := (And.intro (And.intro (And.intro (And.intro ln.c1.1 ln.c1.2.1) (And.intro ln.c2.1 ln.c2.2.1)) litA) litB)
            refine hKK.out _ _ s (fun hHeld => ?_)
            clear hKK KK hHeld
            try simp only [Act.put, List.setIfInBounds_toArray, List.set_cons_zero, List.set_cons_succ]
            have hHeld := s
            refine wpAnyH_ready (rs := [14]) (by kernel_rfl) (by simp) ?_
            refine AllReadyH.cons nth14 (fun KK hKK => ?_) ?_
            · clear hHeld s
              obtain ⟨a1, a2, a3, a4, a5⟩ := ln.s2
              go_simp
              clear a1 a2 a3 a4 a5
              replace litA := (litA.set (.int .i64 x2) (j := w.heap.size + 1) (o := 0) (by omega)).set (.int .i64 y2) (j := w.heap.size + 1) (o := 1) (by omega)
              replace szA : JA < ((u5.setCell ⟨w.heap.size + 1, 0, none⟩ (.int .i64 x2)).setCell ⟨w.heap.size + 1, 1, none⟩ (.int .i64 y2)).heap.size := by simpa [World.setCell] using szA
              replace litB := (litB.set (.int .i64 x2) (j := w.heap.size + 1) (o := 0) (by omega)).set (.int .i64 y2) (j := w.heap.size + 1) (o := 1) (by omega)
              replace szB : JB < ((u5.setCell ⟨w.heap.size + 1, 0, none⟩ (.int .i64 x2)).setCell ⟨w.heap.size + 1, 1, none⟩ (.int .i64 y2)).heap.size := by simpa [World.setCell] using szB
              replace ln := ln.put2 x2 y2
              generalize ((u5.setCell ⟨w.heap.size + 1, 0, none⟩ (.int .i64 x2)).setCell ⟨w.heap.size + 1, 1, none⟩ (.int .i64 y2)) = u6 at *
              have s := (And.intro (And.intro (And.intro (And.intro ln.c1.1 ln.c1.2.1) (And.intro ln.c2.1 ln.c2.2.1)) litA) litB)
              refine hKK.out _ _ s (fun hHeld => ?_)
              clear hKK KK hHeld
              try simp only [Act.put, List.setIfInBounds_toArray, List.set_cons_zero, List.set_cons_succ]
              have hHeld := s
              refine wpAnyH_take (i := 15) (v := ?vr1y46x15) nth15 (by kernel_rfl) (by kernel_rfl) (by kernel_rfl) (fun _ _ _ h => h) (Or.inl ⟨by rfl, ?hyr1y46x15⟩) hHeld ?_
              case hyr1y46x15 => (intro wH hSw; (try dsimp only at hSw); go_simp; (try with_reducible rfl))
              simp only [Act.put, List.setIfInBounds_toArray, List.set_cons_zero, List.set_cons_succ]
              refine wpAnyH_done (by kernel_rfl) ?_ _
              clear hHeld s
              obtain ⟨a1, a2, a3, a4, a5⟩ := ln.s1
              obtain ⟨a6, a7, a8, a9, a10⟩ := ln.s2
              go_wp2_with fail
              exact bodyPost_ret (v := .tuple #[.agg #[.int .i64 x1, .int .i64 y1], .agg #[.int .i64 x2, .int .i64 y2], .int .i64 n]) (by simp [results, Try.results13, go_sem, a1, a2, a6, a7]) rfl ⟨x1, y1, x2, y2, n, rfl, ln.q⟩
            exact AllReadyH.nil
          exact AllReadyH.nil
        refine AllReadyH.cons nth13 (fun KK hKK => ?_) ?_
        · clear hHeld s
          obtain ⟨a1, a2, a3, a4, a5⟩ := ln.s1
          go_simp
          clear a1 a2 a3 a4 a5
          replace litA := (litA.set (.int .i64 x1) (j := w.heap.size) (o := 0) (by omega)).set (.int .i64 y1) (j := w.heap.size) (o := 1) (by omega)
          replace szA : JA < ((u3.setCell ⟨w.heap.size, 0, none⟩ (.int .i64 x1)).setCell ⟨w.heap.size, 1, none⟩ (.int .i64 y1)).heap.size := by simpa [World.setCell] using szA
          replace ln := ln.put1 x1 y1
          generalize ((u3.setCell ⟨w.heap.size, 0, none⟩ (.int .i64 x1)).setCell ⟨w.heap.size, 1, none⟩ (.int .i64 y1)) = u4 at *
          have s := (And.intro (And.intro (And.intro ln.c1.1 ln.c1.2.1) (And.intro ln.c2.1 ln.c2.2.1)) litA)
          refine hKK.out _ _ s (fun hHeld => ?_)
          clear hKK KK hHeld
          try simp only [Act.put, List.setIfInBounds_toArray, List.set_cons_zero, List.set_cons_succ]
          have hHeld := s
          refine wpAnyH_ready (rs := [6, 14]) (by kernel_rfl) (by simp) ?_
          refine AllReadyH.cons nth6 (fun KK hKK => ?_) ?_
          · clear hHeld s
            go_simp
            have litB : LitAt (u4.alloc (.cells #[.int .i64 0, .int .i64 0, .int .i64 0, .int .i64 0, .int .i64 1, .int .i64 2, .int .i64 3] 3)) u4.heap.size [0, 0, 0, 0, 1, 2, 3] := LitAt.new u4 [0, 0, 0, 0, 1, 2, 3] 3
            have szB : u4.heap.size < (u4.alloc (.cells #[.int .i64 0, .int .i64 0, .int .i64 0, .int .i64 0, .int .i64 1, .int .i64 2, .int .i64 3] 3)).heap.size := by simp
            replace litA := litA.alloc szA (.cells #[.int .i64 0, .int .i64 0, .int .i64 0, .int .i64 0, .int .i64 1, .int .i64 2, .int .i64 3] 3)
            replace szA : JA < (u4.alloc (.cells #[.int .i64 0, .int .i64 0, .int .i64 0, .int .i64 0, .int .i64 1, .int .i64 2, .int .i64 3] 3)).heap.size := by simp; omega
            have gtB : K2 < u4.heap.size := ln.c2.2.2.2.2
            replace ln := ln.alloc (.cells #[.int .i64 0, .int .i64 0, .int .i64 0, .int .i64 0, .int .i64 1, .int .i64 2, .int .i64 3] 3)
            generalize u4.alloc (.cells #[.int .i64 0, .int .i64 0, .int .i64 0, .int .i64 0, .int .i64 1, .int .i64 2, .int .i64 3] 3) = u5 at *
            generalize u4.heap.size = JB at *
            have s := (And.intro (And.intro (And.intro ln.c1.1 ln.c1.2.1) (And.intro ln.c2.1 ln.c2.2.1)) litA)
            refine hKK.out _ _ s (fun hHeld => ?_)
            clear hKK KK hHeld
            try simp only [Act.put, List.setIfInBounds_toArray, List.set_cons_zero, List.set_cons_succ]
            clear s
            have s := (And.intro (And.intro (And.intro (And.intro ln.c1.1 ln.c1.2.1) (And.intro ln.c2.1 ln.c2.2.1)) litA) litB)
            refine wpAnyH_strong (S' := (fun w' => (((w'.cell? ⟨K1, 0, none⟩ = some (.int .i64 x1) ∧ w'.cell? ⟨K1, 1, none⟩ = some (.int .i64 y1)) ∧ (w'.cell? ⟨K2, 0, none⟩ = some (.int .i64 x2) ∧ w'.cell? ⟨K2, 1, none⟩ = some (.int .i64 y2))) ∧ (LitAt w' JA [1 + (p : Int), 0, 401, 1])) ∧ (LitAt w' JB [0, 0, 0, 0, 1, 2, 3]))) (fun _ h => h.1) ?_
            have hHeld := s
            refine wpAnyH_take (i := 9) (v := ?vr1y47x9) nth9 (by kernel_rfl) (by kernel_rfl) (by kernel_rfl) (fun _ _ _ h => h) (Or.inl ⟨by rfl, ?hyr1y47x9⟩) hHeld ?_
            case hyr1y47x9 => (intro wH hSw; (try dsimp only at hSw); go_simp; (try with_reducible rfl))
            simp only [Act.put, List.setIfInBounds_toArray, List.set_cons_zero, List.set_cons_succ]
            refine wpAnyH_take (i := 10) (v := .int .i64 (ix : Int)) nth10 (by kernel_rfl) (by kernel_rfl) (by kernel_rfl) (fun _ _ _ h => h) (Or.inl ⟨by rfl, ?hyr1y48x10⟩) hHeld ?_
            case hyr1y48x10 => (intro wH hSw; have hc := hSw.2 t (by simp; omega); rw [ix1] at hc; clear hSw; go_simp)
            simp only [Act.put, List.setIfInBounds_toArray, List.set_cons_zero, List.set_cons_succ]
            refine wpAnyH_take (i := 11) (v := ?vr1y49x11) nth11 (by kernel_rfl) (by kernel_rfl) (by kernel_rfl) (fun _ _ _ h => h) (Or.inl ⟨by rfl, ?hyr1y49x11⟩) hHeld ?_
            case hyr1y49x11 => (intro wH hSw; (try dsimp only at hSw); go_simp; (try with_reducible rfl))
            simp only [Act.put, List.setIfInBounds_toArray, List.set_cons_zero, List.set_cons_succ]
            refine wpAnyH_take (i := 12) (v := .int .i64 n) nth12 (by kernel_rfl) (by kernel_rfl) (by kernel_rfl) (fun _ _ _ h => h) (Or.inl ⟨by rfl, ?hyr1y50x12⟩) hHeld ?_
            case hyr1y50x12 => (intro wH hSw; have hc := hSw.1.2 ix (by simp; omega); rw [hn] at hc; clear hSw; go_simp)
            simp only [Act.put, List.setIfInBounds_toArray, List.set_cons_zero, List.set_cons_succ]
            refine wpAnyH_ready (rs := [14]) (by kernel_rfl) (by simp) ?_
            refine AllReadyH.cons nth14 (fun KK hKK => ?_) ?_
            · clear hHeld s
              obtain ⟨a1, a2, a3, a4, a5⟩ := ln.s2
              go_simp
              clear a1 a2 a3 a4 a5
              replace litA := (litA.set (.int .i64 x2) (j := w.heap.size + 1) (o := 0) (by omega)).set (.int .i64 y2) (j := w.heap.size + 1) (o := 1) (by omega)
              replace szA : JA < ((u5.setCell ⟨w.heap.size + 1, 0, none⟩ (.int .i64 x2)).setCell ⟨w.heap.size + 1, 1, none⟩ (.int .i64 y2)).heap.size := by simpa [World.setCell] using szA
              replace litB := (litB.set (.int .i64 x2) (j := w.heap.size + 1) (o := 0) (by omega)).set (.int .i64 y2) (j := w.heap.size + 1) (o := 1) (by omega)
              replace szB : JB < ((u5.setCell ⟨w.heap.size + 1, 0, none⟩ (.int .i64 x2)).setCell ⟨w.heap.size + 1, 1, none⟩ (.int .i64 y2)).heap.size := by simpa [World.setCell] using szB
              replace ln := ln.put2 x2 y2
              generalize ((u5.setCell ⟨w.heap.size + 1, 0, none⟩ (.int .i64 x2)).setCell ⟨w.heap.size + 1, 1, none⟩ (.int .i64 y2)) = u6 at *
              have s := (And.intro (And.intro (And.intro (And.intro ln.c1.1 ln.c1.2.1) (And.intro ln.c2.1 ln.c2.2.1)) litA) litB)
              refine hKK.out _ _ s (fun hHeld => ?_)
              clear hKK KK hHeld
              try simp only [Act.put, List.setIfInBounds_toArray, List.set_cons_zero, List.set_cons_succ]
              have hHeld := s
              refine wpAnyH_take (i := 15) (v := ?vr1y51x15) nth15 (by kernel_rfl) (by kernel_rfl) (by kernel_rfl) (fun _ _ _ h => h) (Or.inl ⟨by rfl, ?hyr1y51x15⟩) hHeld ?_
              case hyr1y51x15 => (intro wH hSw; (try dsimp only at hSw); go_simp; (try with_reducible rfl))
              simp only [Act.put, List.setIfInBounds_toArray, List.set_cons_zero, List.set_cons_succ]
              refine wpAnyH_done (by kernel_rfl) ?_ _
              clear hHeld s
              obtain ⟨a1, a2, a3, a4, a5⟩ := ln.s1
              obtain ⟨a6, a7, a8, a9, a10⟩ := ln.s2
              go_wp2_with fail
              exact bodyPost_ret (v := .tuple #[.agg #[.int .i64 x1, .int .i64 y1], .agg #[.int .i64 x2, .int .i64 y2], .int .i64 n]) (by simp [results, Try.results13, go_sem, a1, a2, a6, a7]) rfl ⟨x1, y1, x2, y2, n, rfl, ln.q⟩
            exact AllReadyH.nil
          refine AllReadyH.cons nth14 (fun KK hKK => ?_) ?_
          · clear hHeld s
            obtain ⟨a1, a2, a3, a4, a5⟩ := ln.s2
            go_simp
            clear a1 a2 a3 a4 a5
            replace litA := (litA.set (.int .i64 x2) (j := w.heap.size + 1) (o := 0) (by omega)).set (.int .i64 y2) (j := w.heap.size + 1) (o := 1) (by omega)
            replace szA : JA < ((u4.setCell ⟨w.heap.size + 1, 0, none⟩ (.int .i64 x2)).setCell ⟨w.heap.size + 1, 1, none⟩ (.int .i64 y2)).heap.size := by simpa [World.setCell] using szA
            replace ln := ln.put2 x2 y2
            generalize ((u4.setCell ⟨w.heap.size + 1, 0, none⟩ (.int .i64 x2)).setCell ⟨w.heap.size + 1, 1, none⟩ (.int .i64 y2)) = u5 at *
            have s := (And.intro (And.intro (And.intro ln.c1.1 ln.c1.2.1) (And.intro ln.c2.1 ln.c2.2.1)) litA)
            refine hKK.out _ _ s (fun hHeld => ?_)
            clear hKK KK hHeld
            try simp only [Act.put, List.setIfInBounds_toArray, List.set_cons_zero, List.set_cons_succ]
            have hHeld := s
            refine wpAnyH_ready (rs := [6]) (by kernel_rfl) (by simp) ?_
            refine AllReadyH.cons nth6 (fun KK hKK => ?_) ?_
            · clear hHeld s
              go_simp
              have litB : LitAt (u5.alloc (.cells #[.int .i64 0, .int .i64 0, .int .i64 0, .int .i64 0, .int .i64 1, .int .i64 2, .int .i64 3] 3)) u5.heap.size [0, 0, 0, 0, 1, 2, 3] := LitAt.new u5 [0, 0, 0, 0, 1, 2, 3] 3
              have szB : u5.heap.size < (u5.alloc (.cells #[.int .i64 0, .int .i64 0, .int .i64 0, .int .i64 0, .int .i64 1, .int .i64 2, .int .i64 3] 3)).heap.size := by simp
              replace litA := litA.alloc szA (.cells #[.int .i64 0, .int .i64 0, .int .i64 0, .int .i64 0, .int .i64 1, .int .i64 2, .int .i64 3] 3)
              replace szA : JA < (u5.alloc (.cells #[.int .i64 0, .int .i64 0, .int .i64 0, .int .i64 0, .int .i64 1, .int .i64 2, .int .i64 3] 3)).heap.size := by simp; omega
              have gtB : K2 < u5.heap.size := ln.c2.2.2.2.2
              replace ln := ln.alloc (.cells #[.int .i64 0, .int .i64 0, .int .i64 0, .int .i64 0, .int .i64 1, .int .i64 2, .int .i64 3] 3)
              generalize u5.alloc (.cells #[.int .i64 0, .int .i64 0, .int .i64 0, .int .i64 0, .int .i64 1, .int .i64 2, .int .i64 3] 3) = u6 at *
              generalize u5.heap.size = JB at *
              have s := (And.intro (And.intro (And.intro ln.c1.1 ln.c1.2.1) (And.intro ln.c2.1 ln.c2.2.1)) litA)
              refine hKK.out _ _ s (fun hHeld => ?_)
              clear hKK KK hHeld
              try simp only [Act.put, List.setIfInBounds_toArray, List.set_cons_zero, List.set_cons_succ]
              clear s
              have s := (And.intro (And.intro (And.intro (And.intro ln.c1.1 ln.c1.2.1) (And.intro ln.c2.1 ln.c2.2.1)) litA) litB)
              refine wpAnyH_strong (S' := (fun w' => (((w'.cell? ⟨K1, 0, none⟩ = some (.int .i64 x1) ∧ w'.cell? ⟨K1, 1, none⟩ = some (.int .i64 y1)) ∧ (w'.cell? ⟨K2, 0, none⟩ = some (.int .i64 x2) ∧ w'.cell? ⟨K2, 1, none⟩ = some (.int .i64 y2))) ∧ (LitAt w' JA [1 + (p : Int), 0, 401, 1])) ∧ (LitAt w' JB [0, 0, 0, 0, 1, 2, 3]))) (fun _ h => h.1) ?_
              have hHeld := s
              refine wpAnyH_take (i := 9) (v := ?vr1y52x9) nth9 (by kernel_rfl) (by kernel_rfl) (by kernel_rfl) (fun _ _ _ h => h) (Or.inl ⟨by rfl, ?hyr1y52x9⟩) hHeld ?_
              case hyr1y52x9 => (intro wH hSw; (try dsimp only at hSw); go_simp; (try with_reducible rfl))
              simp only [Act.put, List.setIfInBounds_toArray, List.set_cons_zero, List.set_cons_succ]
              refine wpAnyH_take (i := 10) (v := .int .i64 (ix : Int)) nth10 (by kernel_rfl) (by kernel_rfl) (by kernel_rfl) (fun _ _ _ h => h) (Or.inl ⟨by rfl, ?hyr1y53x10⟩) hHeld ?_
              case hyr1y53x10 => (intro wH hSw; have hc := hSw.2 t (by simp; omega); rw [ix1] at hc; clear hSw; go_simp)
              simp only [Act.put, List.setIfInBounds_toArray, List.set_cons_zero, List.set_cons_succ]
              refine wpAnyH_take (i := 11) (v := ?vr1y54x11) nth11 (by kernel_rfl) (by kernel_rfl) (by kernel_rfl) (fun _ _ _ h => h) (Or.inl ⟨by rfl, ?hyr1y54x11⟩) hHeld ?_
              case hyr1y54x11 => (intro wH hSw; (try dsimp only at hSw); go_simp; (try with_reducible rfl))
              simp only [Act.put, List.setIfInBounds_toArray, List.set_cons_zero, List.set_cons_succ]
              refine wpAnyH_take (i := 12) (v := .int .i64 n) nth12 (by kernel_rfl) (by kernel_rfl) (by kernel_rfl) (fun _ _ _ h => h) (Or.inl ⟨by rfl, ?hyr1y55x12⟩) hHeld ?_
              case hyr1y55x12 => (intro wH hSw; have hc := hSw.1.2 ix (by simp; omega); rw [hn] at hc; clear hSw; go_simp)
              simp only [Act.put, List.setIfInBounds_toArray, List.set_cons_zero, List.set_cons_succ]
              refine wpAnyH_take (i := 15) (v := ?vr1y56x15) nth15 (by kernel_rfl) (by kernel_rfl) (by kernel_rfl) (fun _ _ _ h => h) (Or.inl ⟨by rfl, ?hyr1y56x15⟩) hHeld ?_
              case hyr1y56x15 => (intro wH hSw; (try dsimp only at hSw); go_simp; (try with_reducible rfl))
              simp only [Act.put, List.setIfInBounds_toArray, List.set_cons_zero, List.set_cons_succ]
              refine wpAnyH_done (by kernel_rfl) ?_ _
              clear hHeld s
              obtain ⟨a1, a2, a3, a4, a5⟩ := ln.s1
              obtain ⟨a6, a7, a8, a9, a10⟩ := ln.s2
              go_wp2_with fail
              exact bodyPost_ret (v := .tuple #[.agg #[.int .i64 x1, .int .i64 y1], .agg #[.int .i64 x2, .int .i64 y2], .int .i64 n]) (by simp [results, Try.results13, go_sem, a1, a2, a6, a7]) rfl ⟨x1, y1, x2, y2, n, rfl, ln.q⟩
            exact AllReadyH.nil
          exact AllReadyH.nil
        exact AllReadyH.nil
      refine AllReadyH.cons nth6 (fun KK hKK => ?_) ?_
      · clear hHeld s
        go_simp
        have litB : LitAt (u2.alloc (.cells #[.int .i64 0, .int .i64 0, .int .i64 0, .int .i64 0, .int .i64 1, .int .i64 2, .int .i64 3] 3)) u2.heap.size [0, 0, 0, 0, 1, 2, 3] := LitAt.new u2 [0, 0, 0, 0, 1, 2, 3] 3
        have szB : u2.heap.size < (u2.alloc (.cells #[.int .i64 0, .int .i64 0, .int .i64 0, .int .i64 0, .int .i64 1, .int .i64 2, .int .i64 3] 3)).heap.size := by simp
        have gtB : K2 < u2.heap.size := ln.c2.2.2.2.2
        replace ln := ln.alloc (.cells #[.int .i64 0, .int .i64 0, .int .i64 0, .int .i64 0, .int .i64 1, .int .i64 2, .int .i64 3] 3)
        generalize u2.alloc (.cells #[.int .i64 0, .int .i64 0, .int .i64 0, .int .i64 0, .int .i64 1, .int .i64 2, .int .i64 3] 3) = u3 at *
        generalize u2.heap.size = JB at *
        have s := (And.intro (And.intro ln.c1.1 ln.c1.2.1) (And.intro ln.c2.1 ln.c2.2.1))
        refine hKK.out _ _ s (fun hHeld => ?_)
        clear hKK KK hHeld
        try simp only [Act.put, List.setIfInBounds_toArray, List.set_cons_zero, List.set_cons_succ]
        clear s
        have s := (And.intro (And.intro (And.intro ln.c1.1 ln.c1.2.1) (And.intro ln.c2.1 ln.c2.2.1)) litB)
        refine wpAnyH_strong (S' := (fun w' => ((w'.cell? ⟨K1, 0, none⟩ = some (.int .i64 x1) ∧ w'.cell? ⟨K1, 1, none⟩ = some (.int .i64 y1)) ∧ (w'.cell? ⟨K2, 0, none⟩ = some (.int .i64 x2) ∧ w'.cell? ⟨K2, 1, none⟩ = some (.int .i64 y2))) ∧ (LitAt w' JB [0, 0, 0, 0, 1, 2, 3]))) (fun _ h => h.1) ?_
        have hHeld := s
        refine wpAnyH_take (i := 9) (v := ?vr1y57x9) nth9 (by kernel_rfl) (by kernel_rfl) (by kernel_rfl) (fun _ _ _ h => h) (Or.inl ⟨by rfl, ?hyr1y57x9⟩) hHeld ?_
        case hyr1y57x9 => (intro wH hSw; (try dsimp only at hSw); go_simp; (try with_reducible rfl))
        simp only [Act.put, List.setIfInBounds_toArray, List.set_cons_zero, List.set_cons_succ]
        refine wpAnyH_take (i := 10) (v := .int .i64 (ix : Int)) nth10 (by kernel_rfl) (by kernel_rfl) (by kernel_rfl) (fun _ _ _ h => h) (Or.inl ⟨by rfl, ?hyr1y58x10⟩) hHeld ?_
        case hyr1y58x10 => (intro wH hSw; have hc := hSw.2 t (by simp; omega); rw [ix1] at hc; clear hSw; go_simp)
        simp only [Act.put, List.setIfInBounds_toArray, List.set_cons_zero, List.set_cons_succ]
        refine wpAnyH_ready (rs := [5, 13]) (by kernel_rfl) (by simp) ?_
        refine AllReadyH.cons nth5 (fun KK hKK => ?_) ?_
        · clear hHeld s
          go_simp
          have litA : LitAt (u3.alloc (.cells #[.int .i64 (1 + (p : Int)), .int .i64 0, .int .i64 401, .int .i64 1] 3)) u3.heap.size [1 + (p : Int), 0, 401, 1] := LitAt.new u3 [1 + (p : Int), 0, 401, 1] 3
          have szA : u3.heap.size < (u3.alloc (.cells #[.int .i64 (1 + (p : Int)), .int .i64 0, .int .i64 401, .int .i64 1] 3)).heap.size := by simp
          replace litB := litB.alloc szB (.cells #[.int .i64 (1 + (p : Int)), .int .i64 0, .int .i64 401, .int .i64 1] 3)
          replace szB : JB < (u3.alloc (.cells #[.int .i64 (1 + (p : Int)), .int .i64 0, .int .i64 401, .int .i64 1] 3)).heap.size := by simp; omega
          have gtA : K2 < u3.heap.size := ln.c2.2.2.2.2
          replace ln := ln.alloc (.cells #[.int .i64 (1 + (p : Int)), .int .i64 0, .int .i64 401, .int .i64 1] 3)
          generalize u3.alloc (.cells #[.int .i64 (1 + (p : Int)), .int .i64 0, .int .i64 401, .int .i64 1] 3) = u4 at *
          generalize u3.heap.size = JA at *
          have s := (And.intro (And.intro (And.intro ln.c1.1 ln.c1.2.1) (And.intro ln.c2.1 ln.c2.2.1)) litB)
          refine hKK.out _ _ s (fun hHeld => ?_)
          clear hKK KK hHeld
          try simp only [Act.put, List.setIfInBounds_toArray, List.set_cons_zero, List.set_cons_succ]
          clear s
          have s := (And.intro (And.intro (And.intro (And.intro ln.c1.1 ln.c1.2.1) (And.intro ln.c2.1 ln.c2.2.1)) litB) litA)
          refine wpAnyH_strong (S' := (fun w' => (((w'.cell? ⟨K1, 0, none⟩ = some (.int .i64 x1) ∧ w'.cell? ⟨K1, 1, none⟩ = some (.int .i64 y1)) ∧ (w'.cell? ⟨K2, 0, none⟩ = some (.int .i64 x2) ∧ w'.cell? ⟨K2, 1, none⟩ = some (.int .i64 y2))) ∧ (LitAt w' JB [0, 0, 0, 0, 1, 2, 3])) ∧ (LitAt w' JA [1 + (p : Int), 0, 401, 1]))) (fun _ h => h.1) ?_
          have hHeld := s
          refine wpAnyH_take (i := 11) (v := ?vr1y59x11) nth11 (by kernel_rfl) (by kernel_rfl) (by kernel_rfl) (fun _ _ _ h => h) (Or.inl ⟨by rfl, ?hyr1y59x11⟩) hHeld ?_
          case hyr1y59x11 => (intro wH hSw; (try dsimp only at hSw); go_simp; (try with_reducible rfl))
          simp only [Act.put, List.setIfInBounds_toArray, List.set_cons_zero, List.set_cons_succ]
          refine wpAnyH_take (i := 12) (v := .int .i64 n) nth12 (by kernel_rfl) (by kernel_rfl) (by kernel_rfl) (fun _ _ _ h => h) (Or.inl ⟨by rfl, ?hyr1y60x12⟩) hHeld ?_
          case hyr1y60x12 => (intro wH hSw; have hc := hSw.2 ix (by simp; omega); rw [hn] at hc; clear hSw; go_simp)
          simp only [Act.put, List.setIfInBounds_toArray, List.set_cons_zero, List.set_cons_succ]
          refine wpAnyH_ready (rs := [13]) (by kernel_rfl) (by simp) ?_
          refine AllReadyH.cons nth13 (fun KK hKK => ?_) ?_
          · clear hHeld s
            obtain ⟨a1, a2, a3, a4, a5⟩ := ln.s1
            go_simp
            clear a1 a2 a3 a4 a5
            replace litB := (litB.set (.int .i64 x1) (j := w.heap.size) (o := 0) (by omega)).set (.int .i64 y1) (j := w.heap.size) (o := 1) (by omega)
            replace szB : JB < ((u4.setCell ⟨w.heap.size, 0, none⟩ (.int .i64 x1)).setCell ⟨w.heap.size, 1, none⟩ (.int .i64 y1)).heap.size := by simpa [World.setCell] using szB
            replace litA := (litA.set (.int .i64 x1) (j := w.heap.size) (o := 0) (by omega)).set (.int .i64 y1) (j := w.heap.size) (o := 1) (by omega)
            replace szA : JA < ((u4.setCell ⟨w.heap.size, 0, none⟩ (.int .i64 x1)).setCell ⟨w.heap.size, 1, none⟩ (.int .i64 y1)).heap.size := by simpa [World.setCell] using szA
            replace ln := ln.put1 x1 y1
            generalize ((u4.setCell ⟨w.heap.size, 0, none⟩ (.int .i64 x1)).setCell ⟨w.heap.size, 1, none⟩ (.int .i64 y1)) = u5 at *
            have s := (And.intro (And.intro (And.intro (And.intro ln.c1.1 ln.c1.2.1) (And.intro ln.c2.1 ln.c2.2.1)) litB) litA)
            refine hKK.out _ _ s (fun hHeld => ?_)
            clear hKK KK hHeld
            try simp only [Act.put, List.setIfInBounds_toArray, List.set_cons_zero, List.set_cons_succ]
            have hHeld := s
            refine wpAnyH_ready (rs := [14]) (by kernel_rfl) (by simp) ?_
            refine AllReadyH.cons nth14 (fun KK hKK => ?_) ?_
            · clear hHeld s
              obtain ⟨a1, a2, a3, a4, a5⟩ := ln.s2
              go_simp
              clear a1 a2 a3 a4 a5
              replace litB := (litB.set (.int .i64 x2) (j := w.heap.size + 1) (o := 0) (by omega)).set (.int .i64 y2) (j := w.heap.size + 1) (o := 1) (by omega)
              replace szB : JB < ((u5.setCell ⟨w.heap.size + 1, 0, none⟩ (.int .i64 x2)).setCell ⟨w.heap.size + 1, 1, none⟩ (.int .i64 y2)).heap.size := by simpa [World.setCell] using szB
              replace litA := (litA.set (.int .i64 x2) (j := w.heap.size + 1) (o := 0) (by omega)).set (.int .i64 y2) (j := w.heap.size + 1) (o := 1) (by omega)
              replace szA : JA < ((u5.setCell ⟨w.heap.size + 1, 0, none⟩ (.int .i64 x2)).setCell ⟨w.heap.size + 1, 1, none⟩ (.int .i64 y2)).heap.size := by simpa [World.setCell] using szA
              replace ln := ln.put2 x2 y2
              generalize ((u5.setCell ⟨w.heap.size + 1, 0, none⟩ (.int .i64 x2)).setCell ⟨w.heap.size + 1, 1, none⟩ (.int .i64 y2)) = u6 at *
              have s := (And.intro (And.intro (And.intro (And.intro ln.c1.1 ln.c1.2.1) (And.intro ln.c2.1 ln.c2.2.1)) litB) litA)
              refine hKK.out _ _ s (fun hHeld => ?_)
              clear hKK KK hHeld
              try simp only [Act.put, List.setIfInBounds_toArray, List.set_cons_zero, List.set_cons_succ]
              have hHeld := s
              refine wpAnyH_take (i := 15) (v := ?vr1y61x15) nth15 (by kernel_rfl) (by kernel_rfl) (by kernel_rfl) (fun _ _ _ h => h) (Or.inl ⟨by rfl, ?hyr1y61x15⟩) hHeld ?_
              case hyr1y61x15 => (intro wH hSw; (try dsimp only at hSw); go_simp; (try with_reducible rfl))
              simp only [Act.put, List.setIfInBounds_toArray, List.set_cons_zero, List.set_cons_succ]
              refine wpAnyH_done (by kernel_rfl) ?_ _
              clear hHeld s
              obtain ⟨a1, a2, a3, a4, a5⟩ := ln.s1
              obtain ⟨a6, a7, a8, a9, a10⟩ := ln.s2
              go_wp2_with fail
              exact bodyPost_ret (v := .tuple #[.agg #[.int .i64 x1, .int .i64 y1], .agg #[.int .i64 x2, .int .i64 y2], .int .i64 n]) (by simp [results, Try.results13, go_sem, a1, a2, a6, a7]) rfl ⟨x1, y1, x2, y2, n, rfl, ln.q⟩
            exact AllReadyH.nil
          exact AllReadyH.nil
        refine AllReadyH.cons nth13 (fun KK hKK => ?_) ?_
        · clear hHeld s
          obtain ⟨a1, a2, a3, a4, a5⟩ := ln.s1
          go_simp
          clear a1 a2 a3 a4 a5
          replace litB := (litB.set (.int .i64 x1) (j := w.heap.size) (o := 0) (by omega)).set (.int .i64 y1) (j := w.heap.size) (o := 1) (by omega)
          replace szB : JB < ((u3.setCell ⟨w.heap.size, 0, none⟩ (.int .i64 x1)).setCell ⟨w.heap.size, 1, none⟩ (.int .i64 y1)).heap.size := by simpa [World.setCell] using szB
          replace ln := ln.put1 x1 y1
          generalize ((u3.setCell ⟨w.heap.size, 0, none⟩ (.int .i64 x1)).setCell ⟨w.heap.size, 1, none⟩ (.int .i64 y1)) = u4 at *
          have s := (And.intro (And.intro (And.intro ln.c1.1 ln.c1.2.1) (And.intro ln.c2.1 ln.c2.2.1)) litB)
          refine hKK.out _ _ s (fun hHeld => ?_)
          clear hKK KK hHeld
          try simp only [Act.put, List.setIfInBounds_toArray, List.set_cons_zero, List.set_cons_succ]
          have hHeld := s
          refine wpAnyH_ready (rs := [5, 14]) (by kernel_rfl) (by simp) ?_
          refine AllReadyH.cons nth5 (fun KK hKK => ?_) ?_
          · clear hHeld s
            go_simp
            have litA : LitAt (u4.alloc (.cells #[.int .i64 (1 + (p : Int)), .int .i64 0, .int .i64 401, .int .i64 1] 3)) u4.heap.size [1 + (p : Int), 0, 401, 1] := LitAt.new u4 [1 + (p : Int), 0, 401, 1] 3
            have szA : u4.heap.size < (u4.alloc (.cells #[.int .i64 (1 + (p : Int)), .int .i64 0, .int .i64 401, .int .i64 1] 3)).heap.size := by simp
            replace litB := litB.alloc szB (.cells #[.int .i64 (1 + (p : Int)), .int .i64 0, .int .i64 401, .int .i64 1] 3)
            replace szB : JB < (u4.alloc (.cells #[.int .i64 (1 + (p : Int)), .int .i64 0, .int .i64 401, .int .i64 1] 3)).heap.size := by simp; omega
            have gtA : K2 < u4.heap.size := ln.c2.2.2.2.2
            replace ln := ln.alloc (.cells #[.int .i64 (1 + (p : Int)), .int .i64 0, .int .i64 401, .int .i64 1] 3)
            generalize u4.alloc (.cells #[.int .i64 (1 + (p : Int)), .int .i64 0, .int .i64 401, .int .i64 1] 3) = u5 at *
            generalize u4.heap.size = JA at *
            have s := (And.intro (And.intro (And.intro ln.c1.1 ln.c1.2.1) (And.intro ln.c2.1 ln.c2.2.1)) litB)
            refine hKK.out _ _ s (fun hHeld => ?_)
            clear hKK KK hHeld
            try simp only [Act.put, List.setIfInBounds_toArray, List.set_cons_zero, List.set_cons_succ]
            clear s
            have s := (And.intro (And.intro (And.intro (And.intro ln.c1.1 ln.c1.2.1) (And.intro ln.c2.1 ln.c2.2.1)) litB) litA)
            refine wpAnyH_strong (S' := (fun w' => (((w'.cell? ⟨K1, 0, none⟩ = some (.int .i64 x1) ∧ w'.cell? ⟨K1, 1, none⟩ = some (.int .i64 y1)) ∧ (w'.cell? ⟨K2, 0, none⟩ = some (.int .i64 x2) ∧ w'.cell? ⟨K2, 1, none⟩ = some (.int .i64 y2))) ∧ (LitAt w' JB [0, 0, 0, 0, 1, 2, 3])) ∧ (LitAt w' JA [1 + (p : Int), 0, 401, 1]))) (fun _ h => h.1) ?_
            have hHeld := s
            refine wpAnyH_take (i := 11) (v := ?vr1y62x11) nth11 (by kernel_rfl) (by kernel_rfl) (by kernel_rfl) (fun _ _ _ h => h) (Or.inl ⟨by rfl, ?hyr1y62x11⟩) hHeld ?_
            case hyr1y62x11 => (intro wH hSw; (try dsimp only at hSw); go_simp; (try with_reducible rfl))
            simp only [Act.put, List.setIfInBounds_toArray, List.set_cons_zero, List.set_cons_succ]
            refine wpAnyH_take (i := 12) (v := .int .i64 n) nth12 (by kernel_rfl) (by kernel_rfl) (by kernel_rfl) (fun _ _ _ h => h) (Or.inl ⟨by rfl, ?hyr1y63x12⟩) hHeld ?_
            case hyr1y63x12 => (intro wH hSw; have hc := hSw.2 ix (by simp; omega); rw [hn] at hc; clear hSw; go_simp)
            simp only [Act.put, List.setIfInBounds_toArray, List.set_cons_zero, List.set_cons_succ]
            refine wpAnyH_ready (rs := [14]) (by kernel_rfl) (by simp) ?_
            refine AllReadyH.cons nth14 (fun KK hKK => ?_) ?_
            · clear hHeld s
              obtain ⟨a1, a2, a3, a4, a5⟩ := ln.s2
              go_simp
              clear a1 a2 a3 a4 a5
              replace litB := (litB.set (.int .i64 x2) (j := w.heap.size + 1) (o := 0) (by omega)).set (.int .i64 y2) (j := w.heap.size + 1) (o := 1) (by omega)
              replace szB : JB < ((u5.setCell ⟨w.heap.size + 1, 0, none⟩ (.int .i64 x2)).setCell ⟨w.heap.size + 1, 1, none⟩ (.int .i64 y2)).heap.size := by simpa [World.setCell] using szB
              replace litA := (litA.set (.int .i64 x2) (j := w.heap.size + 1) (o := 0) (by omega)).set (.int .i64 y2) (j := w.heap.size + 1) (o := 1) (by omega)
              replace szA : JA < ((u5.setCell ⟨w.heap.size + 1, 0, none⟩ (.int .i64 x2)).setCell ⟨w.heap.size + 1, 1, none⟩ (.int .i64 y2)).heap.size := by simpa [World.setCell] using szA
              replace ln := ln.put2 x2 y2
              generalize ((u5.setCell ⟨w.heap.size + 1, 0, none⟩ (.int .i64 x2)).setCell ⟨w.heap.size + 1, 1, none⟩ (.int .i64 y2)) = u6 at *
              have s := (And.intro (And.intro (And.intro (And.intro ln.c1.1 ln.c1.2.1) (And.intro ln.c2.1 ln.c2.2.1)) litB) litA)
              refine hKK.out _ _ s (fun hHeld => ?_)
              clear hKK KK hHeld
              try simp only [Act.put, List.setIfInBounds_toArray, List.set_cons_zero, List.set_cons_succ]
              have hHeld := s
              refine wpAnyH_take (i := 15) (v := ?vr1y64x15) nth15 (by kernel_rfl) (by kernel_rfl) (by kernel_rfl) (fun _ _ _ h => h) (Or.inl ⟨by rfl, ?hyr1y64x15⟩) hHeld ?_
              case hyr1y64x15 => (intro wH hSw; (try dsimp only at hSw); go_simp; (try with_reducible rfl))
              simp only [Act.put, List.setIfInBounds_toArray, List.set_cons_zero, List.set_cons_succ]
              refine wpAnyH_done (by kernel_rfl) ?_ _
              clear hHeld s
              obtain ⟨a1, a2, a3, a4, a5⟩ := ln.s1
              obtain ⟨a6, a7, a8, a9, a10⟩ := ln.s2
              go_wp2_with fail
              exact bodyPost_ret (v := .tuple #[.agg #[.int .i64 x1, .int .i64 y1], .agg #[.int .i64 x2, .int .i64 y2], .int .i64 n]) (by simp [results, Try.results13, go_sem, a1, a2, a6, a7]) rfl ⟨x1, y1, x2, y2, n, rfl, ln.q⟩
            exact AllReadyH.nil
          refine AllReadyH.cons nth14 (fun KK hKK => ?_) ?_
          · clear hHeld s
            obtain ⟨a1, a2, a3, a4, a5⟩ := ln.s2
            go_simp
            clear a1 a2 a3 a4 a5
            replace litB := (litB.set (.int .i64 x2) (j := w.heap.size + 1) (o := 0) (by omega)).set (.int .i64 y2) (j := w.heap.size + 1) (o := 1) (by omega)
            replace szB : JB < ((u4.setCell ⟨w.heap.size + 1, 0, none⟩ (.int .i64 x2)).setCell ⟨w.heap.size + 1, 1, none⟩ (.int .i64 y2)).heap.size := by simpa [World.setCell] using szB
            replace ln := ln.put2 x2 y2
            generalize ((u4.setCell ⟨w.heap.size + 1, 0, none⟩ (.int .i64 x2)).setCell ⟨w.heap.size + 1, 1, none⟩ (.int .i64 y2)) = u5 at *
            have s := (And.intro (And.intro (And.intro ln.c1.1 ln.c1.2.1) (And.intro ln.c2.1 ln.c2.2.1)) litB)
            refine hKK.out _ _ s (fun hHeld => ?_)
            clear hKK KK hHeld
            try simp only [Act.put, List.setIfInBounds_toArray, List.set_cons_zero, List.set_cons_succ]
            have hHeld := s
            refine wpAnyH_ready (rs := [5]) (by kernel_rfl) (by simp) ?_
            refine AllReadyH.cons nth5 (fun KK hKK => ?_) ?_
            · clear hHeld s
              go_simp
              have litA : LitAt (u5.alloc (.cells #[.int .i64 (1 + (p : Int)), .int .i64 0, .int .i64 401, .int .i64 1] 3)) u5.heap.size [1 + (p : Int), 0, 401, 1] := LitAt.new u5 [1 + (p : Int), 0, 401, 1] 3
              have szA : u5.heap.size < (u5.alloc (.cells #[.int .i64 (1 + (p : Int)), .int .i64 0, .int .i64 401, .int .i64 1] 3)).heap.size := by simp
              replace litB := litB.alloc szB (.cells #[.int .i64 (1 + (p : Int)), .int .i64 0, .int .i64 401, .int .i64 1] 3)
              replace szB : JB < (u5.alloc (.cells #[.int .i64 (1 + (p : Int)), .int .i64 0, .int .i64 401, .int .i64 1] 3)).heap.size := by simp; omega
              have gtA : K2 < u5.heap.size := ln.c2.2.2.2.2
              replace ln := ln.alloc (.cells #[.int .i64 (1 + (p : Int)), .int .i64 0, .int .i64 401, .int .i64 1] 3)
              generalize u5.alloc (.cells #[.int .i64 (1 + (p : Int)), .int .i64 0, .int .i64 401, .int .i64 1] 3) = u6 at *
              generalize u5.heap.size = JA at *
              have s := (And.intro (And.intro (And.intro ln.c1.1 ln.c1.2.1) (And.intro ln.c2.1 ln.c2.2.1)) litB)
              refine hKK.out _ _ s (fun hHeld => ?_)
              clear hKK KK hHeld
              try simp only [Act.put, List.setIfInBounds_toArray, List.set_cons_zero, List.set_cons_succ]
              clear s
              have s := (And.intro (And.intro (And.intro (And.intro ln.c1.1 ln.c1.2.1) (And.intro ln.c2.1 ln.c2.2.1)) litB) litA)
              refine wpAnyH_strong (S' := (fun w' => (((w'.cell? ⟨K1, 0, none⟩ = some (.int .i64 x1) ∧ w'.cell? ⟨K1, 1, none⟩ = some (.int .i64 y1)) ∧ (w'.cell? ⟨K2, 0, none⟩ = some (.int .i64 x2) ∧ w'.cell? ⟨K2, 1, none⟩ = some (.int .i64 y2))) ∧ (LitAt w' JB [0, 0, 0, 0, 1, 2, 3])) ∧ (LitAt w' JA [1 + (p : Int), 0, 401, 1]))) (fun _ h => h.1) ?_
              have hHeld := s
              refine wpAnyH_take (i := 11) (v := ?vr1y65x11) nth11 (by kernel_rfl) (by kernel_rfl) (by kernel_rfl) (fun _ _ _ h => h) (Or.inl ⟨by rfl, ?hyr1y65x11⟩) hHeld ?_
              case hyr1y65x11 => (intro wH hSw; (try dsimp only at hSw); go_simp; (try with_reducible rfl))
              simp only [Act.put, List.setIfInBounds_toArray, List.set_cons_zero, List.set_cons_succ]
              refine wpAnyH_take (i := 12) (v := .int .i64 n) nth12 (by kernel_rfl) (by kernel_rfl) (by kernel_rfl) (fun _ _ _ h => h) (Or.inl ⟨by rfl, ?hyr1y66x12⟩) hHeld ?_
              case hyr1y66x12 => (intro wH hSw; have hc := hSw.2 ix (by simp; omega); rw [hn] at hc; clear hSw; go_simp)
              simp only [Act.put, List.setIfInBounds_toArray, List.set_cons_zero, List.set_cons_succ]
              refine wpAnyH_take (i := 15) (v := ?vr1y67x15) nth15 (by kernel_rfl) (by kernel_rfl) (by kernel_rfl) (fun _ _ _ h => h) (Or.inl ⟨by rfl, ?hyr1y67x15⟩) hHeld ?_
              case hyr1y67x15 => (intro wH hSw; (try dsimp only at hSw); go_simp; (try with_reducible rfl))
              simp only [Act.put, List.setIfInBounds_toArray, List.set_cons_zero, List.set_cons_succ]
              refine wpAnyH_done (by kernel_rfl) ?_ _
              clear hHeld s
              obtain ⟨a1, a2, a3, a4, a5⟩ := ln.s1
              obtain ⟨a6, a7, a8, a9, a10⟩ := ln.s2
              go_wp2_with fail
              exact bodyPost_ret (v := .tuple #[.agg #[.int .i64 x1, .int .i64 y1], .agg #[.int .i64 x2, .int .i64 y2], .int .i64 n]) (by simp [results, Try.results13, go_sem, a1, a2, a6, a7]) rfl ⟨x1, y1, x2, y2, n, rfl, ln.q⟩
            exact AllReadyH.nil
          exact AllReadyH.nil
        exact AllReadyH.nil
      refine AllReadyH.cons nth13 (fun KK hKK => ?_) ?_
      · clear hHeld s
        obtain ⟨a1, a2, a3, a4, a5⟩ := ln.s1
        go_simp
        clear a1 a2 a3 a4 a5
        replace ln := ln.put1 x1 y1
        generalize ((u2.setCell ⟨w.heap.size, 0, none⟩ (.int .i64 x1)).setCell ⟨w.heap.size, 1, none⟩ (.int .i64 y1)) = u3 at *
        have s := (And.intro (And.intro ln.c1.1 ln.c1.2.1) (And.intro ln.c2.1 ln.c2.2.1))
        refine hKK.out _ _ s (fun hHeld => ?_)
        clear hKK KK hHeld
        try simp only [Act.put, List.setIfInBounds_toArray, List.set_cons_zero, List.set_cons_succ]
        have hHeld := s
        refine wpAnyH_ready (rs := [5, 6, 14]) (by kernel_rfl) (by simp) ?_
        refine AllReadyH.cons nth5 (fun KK hKK => ?_) ?_
        · clear hHeld s
          go_simp
          have litA : LitAt (u3.alloc (.cells #[.int .i64 (1 + (p : Int)), .int .i64 0, .int .i64 401, .int .i64 1] 3)) u3.heap.size [1 + (p : Int), 0, 401, 1] := LitAt.new u3 [1 + (p : Int), 0, 401, 1] 3
          have szA : u3.heap.size < (u3.alloc (.cells #[.int .i64 (1 + (p : Int)), .int .i64 0, .int .i64 401, .int .i64 1] 3)).heap.size := by simp
          have gtA : K2 < u3.heap.size := ln.c2.2.2.2.2
          replace ln := ln.alloc (.cells #[.int .i64 (1 + (p : Int)), .int .i64 0, .int .i64 401, .int .i64 1] 3)
          generalize u3.alloc (.cells #[.int .i64 (1 + (p : Int)), .int .i64 0, .int .i64 401, .int .i64 1] 3) = u4 at *
          generalize u3.heap.size = JA at *
          have s := (And.intro (And.intro ln.c1.1 ln.c1.2.1) (And.intro ln.c2.1 ln.c2.2.1))
          refine hKK.out _ _ s (fun hHeld => ?_)
          clear hKK KK hHeld
          try simp only [Act.put, List.setIfInBounds_toArray, List.set_cons_zero, List.set_cons_succ]
          clear s
          have s := (And.intro (And.intro (And.intro ln.c1.1 ln.c1.2.1) (And.intro ln.c2.1 ln.c2.2.1)) litA)
          refine wpAnyH_strong (S' := (fun w' => ((w'.cell? ⟨K1, 0, none⟩ = some (.int .i64 x1) ∧ w'.cell? ⟨K1, 1, none⟩ = some (.int .i64 y1)) ∧ (w'.cell? ⟨K2, 0, none⟩ = some (.int .i64 x2) ∧ w'.cell? ⟨K2, 1, none⟩ = some (.int .i64 y2))) ∧ (LitAt w' JA [1 + (p : Int), 0, 401, 1]))) (fun _ h => h.1) ?_
          have hHeld := s
          refine wpAnyH_ready (rs := [6, 14]) (by kernel_rfl) (by simp) ?_
          refine AllReadyH.cons nth6 (fun KK hKK => ?_) ?_
          · clear hHeld s
            go_simp
            have litB : LitAt (u4.alloc (.cells #[.int .i64 0, .int .i64 0, .int .i64 0, .int .i64 0, .int .i64 1, .int .i64 2, .int .i64 3] 3)) u4.heap.size [0, 0, 0, 0, 1, 2, 3] := LitAt.new u4 [0, 0, 0, 0, 1, 2, 3] 3
            have szB : u4.heap.size < (u4.alloc (.cells #[.int .i64 0, .int .i64 0, .int .i64 0, .int .i64 0, .int .i64 1, .int .i64 2, .int .i64 3] 3)).heap.size := by simp
            replace litA := litA.alloc szA (.cells #[.int .i64 0, .int .i64 0, .int .i64 0, .int .i64 0, .int .i64 1, .int .i64 2, .int .i64 3] 3)
            replace szA : JA < (u4.alloc (.cells #[.int .i64 0, .int .i64 0, .int .i64 0, .int .i64 0, .int .i64 1, .int .i64 2, .int .i64 3] 3)).heap.size := by simp; omega
            have gtB : K2 < u4.heap.size := ln.c2.2.2.2.2
            replace ln := ln.alloc (.cells #[.int .i64 0, .int .i64 0, .int .i64 0, .int .i64 0, .int .i64 1, .int .i64 2, .int .i64 3] 3)
            generalize u4.alloc (.cells #[.int .i64 0, .int .i64 0, .int .i64 0, .int .i64 0, .int .i64 1, .int .i64 2, .int .i64 3] 3) = u5 at *
            generalize u4.heap.size = JB at *
            have s := (And.intro (And.intro (And.intro ln.c1.1 ln.c1.2.1) (And.intro ln.c2.1 ln.c2.2.1)) litA)
            refine hKK.out _ _ s (fun hHeld => ?_)
            clear hKK KK hHeld
            try simp only [Act.put, List.setIfInBounds_toArray, List.set_cons_zero, List.set_cons_succ]
            clear s
            have s := (And.intro (And.intro (And.intro (And.intro ln.c1.1 ln.c1.2.1) (And.intro ln.c2.1 ln.c2.2.1)) litA) litB)
            refine wpAnyH_strong (S' := (fun w' => (((w'.cell? ⟨K1, 0, none⟩ = some (.int .i64 x1) ∧ w'.cell? ⟨K1, 1, none⟩ = some (.int .i64 y1)) ∧ (w'.cell? ⟨K2, 0, none⟩ = some (.int .i64 x2) ∧ w'.cell? ⟨K2, 1, none⟩ = some (.int .i64 y2))) ∧ (LitAt w' JA [1 + (p : Int), 0, 401, 1])) ∧ (LitAt w' JB [0, 0, 0, 0, 1, 2, 3]))) (fun _ h => h.1) ?_
            have hHeld := s
            refine wpAnyH_take (i := 9) (v := ?vr1y68x9) nth9 (by kernel_rfl) (by kernel_rfl) (by kernel_rfl) (fun _ _ _ h => h) (Or.inl ⟨by rfl, ?hyr1y68x9⟩) hHeld ?_
            case hyr1y68x9 => (intro wH hSw; (try dsimp only at hSw); go_simp; (try with_reducible rfl))
            simp only [Act.put, List.setIfInBounds_toArray, List.set_cons_zero, List.set_cons_succ]
            refine wpAnyH_take (i := 10) (v := .int .i64 (ix : Int)) nth10 (by kernel_rfl) (by kernel_rfl) (by kernel_rfl) (fun _ _ _ h => h) (Or.inl ⟨by rfl, ?hyr1y69x10⟩) hHeld ?_
            case hyr1y69x10 => (intro wH hSw; have hc := hSw.2 t (by simp; omega); rw [ix1] at hc; clear hSw; go_simp)
            simp only [Act.put, List.setIfInBounds_toArray, List.set_cons_zero, List.set_cons_succ]
            refine wpAnyH_take (i := 11) (v := ?vr1y70x11) nth11 (by kernel_rfl) (by kernel_rfl) (by kernel_rfl) (fun _ _ _ h => h) (Or.inl ⟨by rfl, ?hyr1y70x11⟩) hHeld ?_
            case hyr1y70x11 => (intro wH hSw; (try dsimp only at hSw); go_simp; (try with_reducible rfl))
            simp only [Act.put, List.setIfInBounds_toArray, List.set_cons_zero, List.set_cons_succ]
            refine wpAnyH_take (i := 12) (v := .int .i64 n) nth12 (by kernel_rfl) (by kernel_rfl) (by kernel_rfl) (fun _ _ _ h => h) (Or.inl ⟨by rfl, ?hyr1y71x12⟩) hHeld ?_
            case hyr1y71x12 => (intro wH hSw; have hc := hSw.1.2 ix (by simp; omega); rw [hn] at hc; clear hSw; go_simp)
            simp only [Act.put, List.setIfInBounds_toArray, List.set_cons_zero, List.set_cons_succ]
            refine wpAnyH_ready (rs := [14]) (by kernel_rfl) (by simp) ?_
            refine AllReadyH.cons nth14 (fun KK hKK => ?_) ?_
            · clear hHeld s
              obtain ⟨a1, a2, a3, a4, a5⟩ := ln.s2
              go_simp
              clear a1 a2 a3 a4 a5
              replace litA := (litA.set (.int .i64 x2) (j := w.heap.size + 1) (o := 0) (by omega)).set (.int .i64 y2) (j := w.heap.size + 1) (o := 1) (by omega)
              replace szA : JA < ((u5.setCell ⟨w.heap.size + 1, 0, none⟩ (.int .i64 x2)).setCell ⟨w.heap.size + 1, 1, none⟩ (.int .i64 y2)).heap.size := by simpa [World.setCell] using szA
              replace litB := (litB.set (.int .i64 x2) (j := w.heap.size + 1) (o := 0) (by omega)).set (.int .i64 y2) (j := w.heap.size + 1) (o := 1) (by omega)
              replace szB : JB < ((u5.setCell ⟨w.heap.size + 1, 0, none⟩ (.int .i64 x2)).setCell ⟨w.heap.size + 1, 1, none⟩ (.int .i64 y2)).heap.size := by simpa [World.setCell] using szB
              replace ln := ln.put2 x2 y2
              generalize ((u5.setCell ⟨w.heap.size + 1, 0, none⟩ (.int .i64 x2)).setCell ⟨w.heap.size + 1, 1, none⟩ (.int .i64 y2)) = u6 at *
              have s := (And.intro (And.intro (And.intro (And.intro ln.c1.1 ln.c1.2.1) (And.intro ln.c2.1 ln.c2.2.1)) litA) litB)
              refine hKK.out _ _ s (fun hHeld => ?_)
              clear hKK KK hHeld
              try simp only [Act.put, List.setIfInBounds_toArray, List.set_cons_zero, List.set_cons_succ]
              have hHeld := s
              refine wpAnyH_take (i := 15) (v := ?vr1y72x15) nth15 (by kernel_rfl) (by kernel_rfl) (by kernel_rfl) (fun _ _ _ h => h) (Or.inl ⟨by rfl, ?hyr1y72x15⟩) hHeld ?_
              case hyr1y72x15 => (intro wH hSw; (try dsimp only at hSw); go_simp; (try with_reducible rfl))
              simp only [Act.put, List.setIfInBounds_toArray, List.set_cons_zero, List.set_cons_succ]
              refine wpAnyH_done (by kernel_rfl) ?_ _
              clear hHeld s
              obtain ⟨a1, a2, a3, a4, a5⟩ := ln.s1
              obtain ⟨a6, a7, a8, a9, a10⟩ := ln.s2
              go_wp2_with fail
              exact bodyPost_ret (v := .tuple #[.agg #[.int .i64 x1, .int .i64 y1], .agg #[.int .i64 x2, .int .i64 y2], .int .i64 n]) (by simp [results, Try.results13, go_sem, a1, a2, a6, a7]) rfl ⟨x1, y1, x2, y2, n, rfl, ln.q⟩
            exact AllReadyH.nil
          refine AllReadyH.cons nth14 (fun KK hKK => ?_) ?_
          · clear hHeld s
            obtain ⟨a1, a2, a3, a4, a5⟩ := ln.s2
            go_simp
            clear a1 a2 a3 a4 a5
            replace litA := (litA.set (.int .i64 x2) (j := w.heap.size + 1) (o := 0) (by omega)).set (.int .i64 y2) (j := w.heap.size + 1) (o := 1) (by omega)
            replace szA : JA < ((u4.setCell ⟨w.heap.size + 1, 0, none⟩ (.int .i64 x2)).setCell ⟨w.heap.size + 1, 1, none⟩ (.int .i64 y2)).heap.size := by simpa [World.setCell] using szA
            replace ln := ln.put2 x2 y2
            generalize ((u4.setCell ⟨w.heap.size + 1, 0, none⟩ (.int .i64 x2)).setCell ⟨w.heap.size + 1, 1, none⟩ (.int .i64 y2)) = u5 at *
            have s := (And.intro (And.intro (And.intro ln.c1.1 ln.c1.2.1) (And.intro ln.c2.1 ln.c2.2.1)) litA)
            refine hKK.out _ _ s (fun hHeld => ?_)
            clear hKK KK hHeld
            try simp only [Act.put, List.setIfInBounds_toArray, List.set_cons_zero, List.set_cons_succ]
            have hHeld := s
            refine wpAnyH_ready (rs := [6]) (by kernel_rfl) (by simp) ?_
            refine AllReadyH.cons nth6 (fun KK hKK => ?_) ?_
            · clear hHeld s
              go_simp
              have litB : LitAt (u5.alloc (.cells #[.int .i64 0, .int .i64 0, .int .i64 0, .int .i64 0, .int .i64 1, .int .i64 2, .int .i64 3] 3)) u5.heap.size [0, 0, 0, 0, 1, 2, 3] := LitAt.new u5 [0, 0, 0, 0, 1, 2, 3] 3
              have szB : u5.heap.size < (u5.alloc (.cells #[.int .i64 0, .int .i64 0, .int .i64 0, .int .i64 0, .int .i64 1, .int .i64 2, .int .i64 3] 3)).heap.size := by simp
              replace litA := litA.alloc szA (.cells #[.int .i64 0, .int .i64 0, .int .i64 0, .int .i64 0, .int .i64 1, .int .i64 2, .int .i64 3] 3)
              replace szA : JA < (u5.alloc (.cells #[.int .i64 0, .int .i64 0, .int .i64 0, .int .i64 0, .int .i64 1, .int .i64 2, .int .i64 3] 3)).heap.size := by simp; omega
              have gtB : K2 < u5.heap.size := ln.c2.2.2.2.2
              replace ln := ln.alloc (.cells #[.int .i64 0, .int .i64 0, .int .i64 0, .int .i64 0, .int .i64 1, .int .i64 2, .int .i64 3] 3)
              generalize u5.alloc (.cells #[.int .i64 0, .int .i64 0, .int .i64 0, .int .i64 0, .int .i64 1, .int .i64 2, .int .i64 3] 3) = u6 at *
              generalize u5.heap.size = JB at *
              have s := (And.intro (And.intro (And.intro ln.c1.1 ln.c1.2.1) (And.intro ln.c2.1 ln.c2.2.1)) litA)
              refine hKK.out _ _ s (fun hHeld => ?_)
              clear hKK KK hHeld
              try simp only [Act.put, List.setIfInBounds_toArray, List.set_cons_zero, List.set_cons_succ]
              clear s
              have s := (And.intro (And.intro (And.intro (And.intro ln.c1.1 ln.c1.2.1) (And.intro ln.c2.1 ln.c2.2.1)) litA) litB)
              refine wpAnyH_strong (S' := (fun w' => (((w'.cell? ⟨K1, 0, none⟩ = some (.int .i64 x1) ∧ w'.cell? ⟨K1, 1, none⟩ = some (.int .i64 y1)) ∧ (w'.cell? ⟨K2, 0, none⟩ = some (.int .i64 x2) ∧ w'.cell? ⟨K2, 1, none⟩ = some (.int .i64 y2))) ∧ (LitAt w' JA [1 + (p : Int), 0, 401, 1])) ∧ (LitAt w' JB [0, 0, 0, 0, 1, 2, 3]))) (fun _ h => h.1) ?_
              have hHeld := s
              refine wpAnyH_take (i := 9) (v := ?vr1y73x9) nth9 (by kernel_rfl) (by kernel_rfl) (by kernel_rfl) (fun _ _ _ h => h) (Or.inl ⟨by rfl, ?hyr1y73x9⟩) hHeld ?_
              case hyr1y73x9 => (intro wH hSw; (try dsimp only at hSw); go_simp; (try with_reducible rfl))
              simp only [Act.put, List.setIfInBounds_toArray, List.set_cons_zero, List.set_cons_succ]
              refine wpAnyH_take (i := 10) (v := .int .i64 (ix : Int)) nth10 (by kernel_rfl) (by kernel_rfl) (by kernel_rfl) (fun _ _ _ h => h) (Or.inl ⟨by rfl, ?hyr1y74x10⟩) hHeld ?_
              case hyr1y74x10 => (intro wH hSw; have hc := hSw.2 t (by simp; omega); rw [ix1] at hc; clear hSw; go_simp)
              simp only [Act.put, List.setIfInBounds_toArray, List.set_cons_zero, List.set_cons_succ]
              refine wpAnyH_take (i := 11) (v := ?vr1y75x11) nth11 (by kernel_rfl) (by kernel_rfl) (by kernel_rfl) (fun _ _ _ h => h) (Or.inl ⟨by rfl, ?hyr1y75x11⟩) hHeld ?_
              case hyr1y75x11 => (intro wH hSw; (try dsimp only at hSw); go_simp; (try with_reducible rfl))
              simp only [Act.put, List.setIfInBounds_toArray, List.set_cons_zero, List.set_cons_succ]
              refine wpAnyH_take (i := 12) (v := .int .i64 n) nth12 (by kernel_rfl) (by kernel_rfl) (by kernel_rfl) (fun _ _ _ h => h) (Or.inl ⟨by rfl, ?hyr1y76x12⟩) hHeld ?_
              case hyr1y76x12 => (intro wH hSw; have hc := hSw.1.2 ix (by simp; omega); rw [hn] at hc; clear hSw; go_simp)
              simp only [Act.put, List.setIfInBounds_toArray, List.set_cons_zero, List.set_cons_succ]
              refine wpAnyH_take (i := 15) (v := ?vr1y77x15) nth15 (by kernel_rfl) (by kernel_rfl) (by kernel_rfl) (fun _ _ _ h => h) (Or.inl ⟨by rfl, ?hyr1y77x15⟩) hHeld ?_
              case hyr1y77x15 => (intro wH hSw; (try dsimp only at hSw); go_simp; (try with_reducible rfl))
              simp only [Act.put, List.setIfInBounds_toArray, List.set_cons_zero, List.set_cons_succ]
              refine wpAnyH_done (by kernel_rfl) ?_ _
              clear hHeld s
              obtain ⟨a1, a2, a3, a4, a5⟩ := ln.s1
              obtain ⟨a6, a7, a8, a9, a10⟩ := ln.s2
              go_wp2_with fail
              exact bodyPost_ret (v := .tuple #[.agg #[.int .i64 x1, .int .i64 y1], .agg #[.int .i64 x2, .int .i64 y2], .int .i64 n]) (by simp [results, Try.results13, go_sem, a1, a2, a6, a7]) rfl ⟨x1, y1, x2, y2, n, rfl, ln.q⟩
            exact AllReadyH.nil
          exact AllReadyH.nil
        refine AllReadyH.cons nth6 (fun KK hKK => ?_) ?_
        · clear hHeld s
          go_simp
          have litB : LitAt (u3.alloc (.cells #[.int .i64 0, .int .i64 0, .int .i64 0, .int .i64 0, .int .i64 1, .int .i64 2, .int .i64 3] 3)) u3.heap.size [0, 0, 0, 0, 1, 2, 3] := LitAt.new u3 [0, 0, 0, 0, 1, 2, 3] 3
          have szB : u3.heap.size < (u3.alloc (.cells #[.int .i64 0, .int .i64 0, .int .i64 0, .int .i64 0, .int .i64 1, .int .i64 2, .int .i64 3] 3)).heap.size := by simp
          have gtB : K2 < u3.heap.size := ln.c2.2.2.2.2
          replace ln := ln.alloc (.cells #[.int .i64 0, .int .i64 0, .int .i64 0, .int .i64 0, .int .i64 1, .int .i64 2, .int .i64 3] 3)
          generalize u3.alloc (.cells #[.int .i64 0, .int .i64 0, .int .i64 0, .int .i64 0, .int .i64 1, .int .i64 2, .int .i64 3] 3) = u4 at *
          generalize u3.heap.size = JB at *
          have s := (And.intro (And.intro ln.c1.1 ln.c1.2.1) (And.intro ln.c2.1 ln.c2.2.1))
          refine hKK.out _ _ s (fun hHeld => ?_)
          clear hKK KK hHeld
          try simp only [Act.put, List.setIfInBounds_toArray, List.set_cons_zero, List.set_cons_succ]
          clear s
          have s := (And.intro (And.intro (And.intro ln.c1.1 ln.c1.2.1) (And.intro ln.c2.1 ln.c2.2.1)) litB)
          refine wpAnyH_strong (S' := (fun w' => ((w'.cell? ⟨K1, 0, none⟩ = some (.int .i64 x1) ∧ w'.cell? ⟨K1, 1, none⟩ = some (.int .i64 y1)) ∧ (w'.cell? ⟨K2, 0, none⟩ = some (.int .i64 x2) ∧ w'.cell? ⟨K2, 1, none⟩ = some (.int .i64 y2))) ∧ (LitAt w' JB [0, 0, 0, 0, 1, 2, 3]))) (fun _ h => h.1) ?_
          have hHeld := s
          refine wpAnyH_take (i := 9) (v := ?vr1y78x9) nth9 (by kernel_rfl) (by kernel_rfl) (by kernel_rfl) (fun _ _ _ h => h) (Or.inl ⟨by rfl, ?hyr1y78x9⟩) hHeld ?_
          case hyr1y78x9 => (intro wH hSw; (try dsimp only at hSw); go_simp; (try with_reducible rfl))
          simp only [Act.put, List.setIfInBounds_toArray, List.set_cons_zero, List.set_cons_succ]
          refine wpAnyH_take (i := 10) (v := .int .i64 (ix : Int)) nth10 (by kernel_rfl) (by kernel_rfl) (by kernel_rfl) (fun _ _ _ h => h) (Or.inl ⟨by rfl, ?hyr1y79x10⟩) hHeld ?_
          case hyr1y79x10 => (intro wH hSw; have hc := hSw.2 t (by simp; omega); rw [ix1] at hc; clear hSw; go_simp)
          simp only [Act.put, List.setIfInBounds_toArray, List.set_cons_zero, List.set_cons_succ]
          refine wpAnyH_ready (rs := [5, 14]) (by kernel_rfl) (by simp) ?_
          refine AllReadyH.cons nth5 (fun KK hKK => ?_) ?_
          · clear hHeld s
            go_simp
            have litA : LitAt (u4.alloc (.cells #[.int .i64 (1 + (p : Int)), .int .i64 0, .int .i64 401, .int .i64 1] 3)) u4.heap.size [1 + (p : Int), 0, 401, 1] := LitAt.new u4 [1 + (p : Int), 0, 401, 1] 3
            have szA : u4.heap.size < (u4.alloc (.cells #[.int .i64 (1 + (p : Int)), .int .i64 0, .int .i64 401, .int .i64 1] 3)).heap.size := by simp
            replace litB := litB.alloc szB (.cells #[.int .i64 (1 + (p : Int)), .int .i64 0, .int .i64 401, .int .i64 1] 3)
            replace szB : JB < (u4.alloc (.cells #[.int .i64 (1 + (p : Int)), .int .i64 0, .int .i64 401, .int .i64 1] 3)).heap.size := by simp; omega
            have gtA : K2 < u4.heap.size := ln.c2.2.2.2.2
            replace ln := ln.alloc (.cells #[.int .i64 (1 + (p : Int)), .int .i64 0, .int .i64 401, .int .i64 1] 3)
            generalize u4.alloc (.cells #[.int .i64 (1 + (p : Int)), .int .i64 0, .int .i64 401, .int .i64 1] 3) = u5 at *
            generalize u4.heap.size = JA at *
            have s := (And.intro (And.intro (And.intro ln.c1.1 ln.c1.2.1) (And.intro ln.c2.1 ln.c2.2.1)) litB)
            refine hKK.out _ _ s (fun hHeld => ?_)
            clear hKK KK hHeld
            try simp only [Act.put, List.setIfInBounds_toArray, List.set_cons_zero, List.set_cons_succ]
            clear s
            have s := (And.intro (And.intro (And.intro (And.intro ln.c1.1 ln.c1.2.1) (And.intro ln.c2.1 ln.c2.2.1)) litB) litA)
            refine wpAnyH_strong (S' := (fun w' => (((w'.cell? ⟨K1, 0, none⟩ = some (.int .i64 x1) ∧ w'.cell? ⟨K1, 1, none⟩ = some (.int .i64 y1)) ∧ (w'.cell? ⟨K2, 0, none⟩ = some (.int .i64 x2) ∧ w'.cell? ⟨K2, 1, none⟩ = some (.int .i64 y2))) ∧ (LitAt w' JB [0, 0, 0, 0, 1, 2, 3])) ∧ (LitAt w' JA [1 + (p : Int), 0, 401, 1]))) (fun _ h => h.1) ?_
            have hHeld := s
            refine wpAnyH_take (i := 11) (v := ?vr1y80x11) nth11 (by kernel_rfl) (by kernel_rfl) (by kernel_rfl) (fun _ _ _ h => h) (Or.inl ⟨by rfl, ?hyr1y80x11⟩) hHeld ?_
            case hyr1y80x11 => (intro wH hSw; (try dsimp only at hSw); go_simp; (try with_reducible rfl))
            simp only [Act.put, List.setIfInBounds_toArray, List.set_cons_zero, List.set_cons_succ]
            refine wpAnyH_take (i := 12) (v := .int .i64 n) nth12 (by kernel_rfl) (by kernel_rfl) (by kernel_rfl) (fun _ _ _ h => h) (Or.inl ⟨by rfl, ?hyr1y81x12⟩) hHeld ?_
            case hyr1y81x12 => (intro wH hSw; have hc := hSw.2 ix (by simp; omega); rw [hn] at hc; clear hSw; go_simp)
            simp only [Act.put, List.setIfInBounds_toArray, List.set_cons_zero, List.set_cons_succ]
            refine wpAnyH_ready (rs := [14]) (by kernel_rfl) (by simp) ?_
            refine AllReadyH.cons nth14 (fun KK hKK => ?_) ?_
            · clear hHeld s
              obtain ⟨a1, a2, a3, a4, a5⟩ := ln.s2
              go_simp
              clear a1 a2 a3 a4 a5
              replace litB := (litB.set (.int .i64 x2) (j := w.heap.size + 1) (o := 0) (by omega)).set (.int .i64 y2) (j := w.heap.size + 1) (o := 1) (by omega)
              replace szB : JB < ((u5.setCell ⟨w.heap.size + 1, 0, none⟩ (.int .i64 x2)).setCell ⟨w.heap.size + 1, 1, none⟩ (.int .i64 y2)).heap.size := by simpa [World.setCell] using szB
              replace litA := (litA.set (.int .i64 x2) (j := w.heap.size + 1) (o := 0) (by omega)).set (.int .i64 y2) (j := w.heap.size + 1) (o := 1) (by omega)
              replace szA : JA < ((u5.setCell ⟨w.heap.size + 1, 0, none⟩ (.int .i64 x2)).setCell ⟨w.heap.size + 1, 1, none⟩ (.int .i64 y2)).heap.size := by simpa [World.setCell] using szA
              replace ln := ln.put2 x2 y2
              generalize ((u5.setCell ⟨w.heap.size + 1, 0, none⟩ (.int .i64 x2)).setCell ⟨w.heap.size + 1, 1, none⟩ (.int .i64 y2)) = u6 at *
              have s := (And.intro (And.intro (And.intro (And.intro ln.c1.1 ln.c1.2.1) (And.intro ln.c2.1 ln.c2.2.1)) litB) litA)
              refine hKK.out _ _ s (fun hHeld => ?_)
              clear hKK KK hHeld
              try simp only [Act.put, List.setIfInBounds_toArray, List.set_cons_zero, List.set_cons_succ]
              have hHeld := s
              refine wpAnyH_take (i := 15) (v := ?vr1y82x15) nth15 (by kernel_rfl) (by kernel_rfl) (by kernel_rfl) (fun _ _ _ h => h) (Or.inl ⟨by rfl, ?hyr1y82x15⟩) hHeld ?_
              case hyr1y82x15 => (intro wH hSw; (try dsimp only at hSw); go_simp; (try with_reducible rfl))
              simp only [Act.put, List.setIfInBounds_toArray, List.set_cons_zero, List.set_cons_succ]
              refine wpAnyH_done (by kernel_rfl) ?_ _
              clear hHeld s
              obtain ⟨a1, a2, a3, a4, a5⟩ := ln.s1
              obtain ⟨a6, a7, a8, a9, a10⟩ := ln.s2
              go_wp2_with fail
              exact bodyPost_ret (v := .tuple #[.agg #[.int .i64 x1, .int .i64 y1], .agg #[.int .i64 x2, .int .i64 y2], .int .i64 n]) (by simp [results, Try.results13, go_sem, a1, a2, a6, a7]) rfl ⟨x1, y1, x2, y2, n, rfl, ln.q⟩
            exact AllReadyH.nil
          refine AllReadyH.cons nth14 (fun KK hKK => ?_) ?_
          · clear hHeld s
            obtain ⟨a1, a2, a3, a4, a5⟩ := ln.s2
            go_simp
            clear a1 a2 a3 a4 a5
            replace litB := (litB.set (.int .i64 x2) (j := w.heap.size + 1) (o := 0) (by omega)).set (.int .i64 y2) (j := w.heap.size + 1) (o := 1) (by omega)
            replace szB : JB < ((u4.setCell ⟨w.heap.size + 1, 0, none⟩ (.int .i64 x2)).setCell ⟨w.heap.size + 1, 1, none⟩ (.int .i64 y2)).heap.size := by simpa [World.setCell] using szB
            replace ln := ln.put2 x2 y2
            generalize ((u4.setCell ⟨w.heap.size + 1, 0, none⟩ (.int .i64 x2)).setCell ⟨w.heap.size + 1, 1, none⟩ (.int .i64 y2)) = u5 at *
            have s := (And.intro (And.intro (And.intro ln.c1.1 ln.c1.2.1) (And.intro ln.c2.1 ln.c2.2.1)) litB)
            refine hKK.out _ _ s (fun hHeld => ?_)
            clear hKK KK hHeld
            try simp only [Act.put, List.setIfInBounds_toArray, List.set_cons_zero, List.set_cons_succ]
            have hHeld := s
            refine wpAnyH_ready (rs := [5]) (by kernel_rfl) (by simp) ?_
            refine AllReadyH.cons nth5 (fun KK hKK => ?_) ?_
            · clear hHeld s
              go_simp
              have litA : LitAt (u5.alloc (.cells #[.int .i64 (1 + (p : Int)), .int .i64 0, .int .i64 401, .int .i64 1] 3)) u5.heap.size [1 + (p : Int), 0, 401, 1] := LitAt.new u5 [1 + (p : Int), 0, 401, 1] 3
              have szA : u5.heap.size < (u5.alloc (.cells #[.int .i64 (1 + (p : Int)), .int .i64 0, .int .i64 401, .int .i64 1] 3)).heap.size := by simp
              replace litB := litB.alloc szB (.cells #[.int .i64 (1 + (p : Int)), .int .i64 0, .int .i64 401, .int .i64 1] 3)
              replace szB : JB < (u5.alloc (.cells #[.int .i64 (1 + (p : Int)), .int .i64 0, .int .i64 401, .int .i64 1] 3)).heap.size := by simp; omega
              have gtA : K2 < u5.heap.size := ln.c2.2.2.2.2
              replace ln := ln.alloc (.cells #[.int .i64 (1 + (p : Int)), .int .i64 0, .int .i64 401, .int .i64 1] 3)
              generalize u5.alloc (.cells #[.int .i64 (1 + (p : Int)), .int .i64 0, .int .i64 401, .int .i64 1] 3) = u6 at *
              generalize u5.heap.size = JA at *
              have s := (And.intro (And.intro (And.intro ln.c1.1 ln.c1.2.1) (And.intro ln.c2.1 ln.c2.2.1)) litB)
              refine hKK.out _ _ s (fun hHeld => ?_)
              clear hKK KK hHeld
              try simp only [Act.put, List.setIfInBounds_toArray, List.set_cons_zero, List.set_cons_succ]
              clear s
              have s := (And.intro (And.intro (And.intro (And.intro ln.c1.1 ln.c1.2.1) (And.intro ln.c2.1 ln.c2.2.1)) litB) litA)
              refine wpAnyH_strong (S' := (fun w' => (((w'.cell? ⟨K1, 0, none⟩ = some (.int .i64 x1) ∧ w'.cell? ⟨K1, 1, none⟩ = some (.int .i64 y1)) ∧ (w'.cell? ⟨K2, 0, none⟩ = some (.int .i64 x2) ∧ w'.cell? ⟨K2, 1, none⟩ = some (.int .i64 y2))) ∧ (LitAt w' JB [0, 0, 0, 0, 1, 2, 3])) ∧ (LitAt w' JA [1 + (p : Int), 0, 401, 1]))) (fun _ h => h.1) ?_
              have hHeld := s
              refine wpAnyH_take (i := 11) (v := ?vr1y83x11) nth11 (by kernel_rfl) (by kernel_rfl) (by kernel_rfl) (fun _ _ _ h => h) (Or.inl ⟨by rfl, ?hyr1y83x11⟩) hHeld ?_
              case hyr1y83x11 => (intro wH hSw; (try dsimp only at hSw); go_simp; (try with_reducible rfl))
              simp only [Act.put, List.setIfInBounds_toArray, List.set_cons_zero, List.set_cons_succ]
              refine wpAnyH_take (i := 12) (v := .int .i64 n) nth12 (by kernel_rfl) (by kernel_rfl) (by kernel_rfl) (fun _ _ _ h => h) (Or.inl ⟨by rfl, ?hyr1y84x12⟩) hHeld ?_
              case hyr1y84x12 => (intro wH hSw; have hc := hSw.2 ix (by simp; omega); rw [hn] at hc; clear hSw; go_simp)
              simp only [Act.put, List.setIfInBounds_toArray, List.set_cons_zero, List.set_cons_succ]
              refine wpAnyH_take (i := 15) (v := ?vr1y85x15) nth15 (by kernel_rfl) (by kernel_rfl) (by kernel_rfl) (fun _ _ _ h => h) (Or.inl ⟨by rfl, ?hyr1y85x15⟩) hHeld ?_
              case hyr1y85x15 => (intro wH hSw; (try dsimp only at hSw); go_simp; (try with_reducible rfl))
              simp only [Act.put, List.setIfInBounds_toArray, List.set_cons_zero, List.set_cons_succ]
              refine wpAnyH_done (by kernel_rfl) ?_ _
              clear hHeld s
              obtain ⟨a1, a2, a3, a4, a5⟩ := ln.s1
              obtain ⟨a6, a7, a8, a9, a10⟩ := ln.s2
              go_wp2_with fail
              exact bodyPost_ret (v := .tuple #[.agg #[.int .i64 x1, .int .i64 y1], .agg #[.int .i64 x2, .int .i64 y2], .int .i64 n]) (by simp [results, Try.results13, go_sem, a1, a2, a6, a7]) rfl ⟨x1, y1, x2, y2, n, rfl, ln.q⟩
            exact AllReadyH.nil
          exact AllReadyH.nil
        refine AllReadyH.cons nth14 (fun KK hKK => ?_) ?_
        · clear hHeld s
          obtain ⟨a1, a2, a3, a4, a5⟩ := ln.s2
          go_simp
          clear a1 a2 a3 a4 a5
          replace ln := ln.put2 x2 y2
          generalize ((u3.setCell ⟨w.heap.size + 1, 0, none⟩ (.int .i64 x2)).setCell ⟨w.heap.size + 1, 1, none⟩ (.int .i64 y2)) = u4 at *
          have s := (And.intro (And.intro ln.c1.1 ln.c1.2.1) (And.intro ln.c2.1 ln.c2.2.1))
          refine hKK.out _ _ s (fun hHeld => ?_)
          clear hKK KK hHeld
          try simp only [Act.put, List.setIfInBounds_toArray, List.set_cons_zero, List.set_cons_succ]
          have hHeld := s
          refine wpAnyH_ready (rs := [5, 6]) (by kernel_rfl) (by simp) ?_
          refine AllReadyH.cons nth5 (fun KK hKK => ?_) ?_
          · clear hHeld s
            go_simp
            have litA : LitAt (u4.alloc (.cells #[.int .i64 (1 + (p : Int)), .int .i64 0, .int .i64 401, .int .i64 1] 3)) u4.heap.size [1 + (p : Int), 0, 401, 1] := LitAt.new u4 [1 + (p : Int), 0, 401, 1] 3
            have szA : u4.heap.size < (u4.alloc (.cells #[.int .i64 (1 + (p : Int)), .int .i64 0, .int .i64 401, .int .i64 1] 3)).heap.size := by simp
            have gtA : K2 < u4.heap.size := ln.c2.2.2.2.2
            replace ln := ln.alloc (.cells #[.int .i64 (1 + (p : Int)), .int .i64 0, .int .i64 401, .int .i64 1] 3)
            generalize u4.alloc (.cells #[.int .i64 (1 + (p : Int)), .int .i64 0, .int .i64 401, .int .i64 1] 3) = u5 at *
            generalize u4.heap.size = JA at *
            have s := (And.intro (And.intro ln.c1.1 ln.c1.2.1) (And.intro ln.c2.1 ln.c2.2.1))
            refine hKK.out _ _ s (fun hHeld => ?_)
            clear hKK KK hHeld
            try simp only [Act.put, List.setIfInBounds_toArray, List.set_cons_zero, List.set_cons_succ]
            clear s
            have s := (And.intro (And.intro (And.intro ln.c1.1 ln.c1.2.1) (And.intro ln.c2.1 ln.c2.2.1)) litA)
            refine wpAnyH_strong (S' := (fun w' => ((w'.cell? ⟨K1, 0, none⟩ = some (.int .i64 x1) ∧ w'.cell? ⟨K1, 1, none⟩ = some (.int .i64 y1)) ∧ (w'.cell? ⟨K2, 0, none⟩ = some (.int .i64 x2) ∧ w'.cell? ⟨K2, 1, none⟩ = some (.int .i64 y2))) ∧ (LitAt w' JA [1 + (p : Int), 0, 401, 1]))) (fun _ h => h.1) ?_
            have hHeld := s
            refine wpAnyH_ready (rs := [6]) (by kernel_rfl) (by simp) ?_
            refine AllReadyH.cons nth6 (fun KK hKK => ?_) ?_
            · clear hHeld s
              go_simp
              have litB : LitAt (u5.alloc (.cells #[.int .i64 0, .int .i64 0, .int .i64 0, .int .i64 0, .int .i64 1, .int .i64 2, .int .i64 3] 3)) u5.heap.size [0, 0, 0, 0, 1, 2, 3] := LitAt.new u5 [0, 0, 0, 0, 1, 2, 3] 3
              have szB : u5.heap.size < (u5.alloc (.cells #[.int .i64 0, .int .i64 0, .int .i64 0, .int .i64 0, .int .i64 1, .int .i64 2, .int .i64 3] 3)).heap.size := by simp
              replace litA := litA.alloc szA (.cells #[.int .i64 0, .int .i64 0, .int .i64 0, .int .i64 0, .int .i64 1, .int .i64 2, .int .i64 3] 3)
              replace szA : JA < (u5.alloc (.cells #[.int .i64 0, .int .i64 0, .int .i64 0, .int .i64 0, .int .i64 1, .int .i64 2, .int .i64 3] 3)).heap.size := by simp; omega
              have gtB : K2 < u5.heap.size := ln.c2.2.2.2.2
              replace ln := ln.alloc (.cells #[.int .i64 0, .int .i64 0, .int .i64 0, .int .i64 0, .int .i64 1, .int .i64 2, .int .i64 3] 3)
              generalize u5.alloc (.cells #[.int .i64 0, .int .i64 0, .int .i64 0, .int .i64 0, .int .i64 1, .int .i64 2, .int .i64 3] 3) = u6 at *
              generalize u5.heap.size = JB at *
              have s := (And.intro (And.intro (And.intro ln.c1.1 ln.c1.2.1) (And.intro ln.c2.1 ln.c2.2.1)) litA)
              refine hKK.out _ _ s (fun hHeld => ?_)
              clear hKK KK hHeld
              try simp only [Act.put, List.setIfInBounds_toArray, List.set_cons_zero, List.set_cons_succ]
              clear s
              have s := (And.intro (And.intro (And.intro (And.intro ln.c1.1 ln.c1.2.1) (And.intro ln.c2.1 ln.c2.2.1)) litA) litB)
              refine wpAnyH_strong (S' := (fun w' => (((w'.cell? ⟨K1, 0, none⟩ = some (.int .i64 x1) ∧ w'.cell? ⟨K1, 1, none⟩ = some (.int .i64 y1)) ∧ (w'.cell? ⟨K2, 0, none⟩ = some (.int .i64 x2) ∧ w'.cell? ⟨K2, 1, none⟩ = some (.int .i64 y2))) ∧ (LitAt w' JA [1 + (p : Int), 0, 401, 1])) ∧ (LitAt w' JB [0, 0, 0, 0, 1, 2, 3]))) (fun _ h => h.1) ?_
              have hHeld := s
              refine wpAnyH_take (i := 9) (v := ?vr1y86x9) nth9 (by kernel_rfl) (by kernel_rfl) (by kernel_rfl) (fun _ _ _ h => h) (Or.inl ⟨by rfl, ?hyr1y86x9⟩) hHeld ?_
              case hyr1y86x9 => (intro wH hSw; (try dsimp only at hSw); go_simp; (try with_reducible rfl))
              simp only [Act.put, List.setIfInBounds_toArray, List.set_cons_zero, List.set_cons_succ]
              refine wpAnyH_take (i := 10) (v := .int .i64 (ix : Int)) nth10 (by kernel_rfl) (by kernel_rfl) (by kernel_rfl) (fun _ _ _ h => h) (Or.inl ⟨by rfl, ?hyr1y87x10⟩) hHeld ?_
              case hyr1y87x10 => (intro wH hSw; have hc := hSw.2 t (by simp; omega); rw [ix1] at hc; clear hSw; go_simp)
              simp only [Act.put, List.setIfInBounds_toArray, List.set_cons_zero, List.set_cons_succ]
              refine wpAnyH_take (i := 11) (v := ?vr1y88x11) nth11 (by kernel_rfl) (by kernel_rfl) (by kernel_rfl) (fun _ _ _ h => h) (Or.inl ⟨by rfl, ?hyr1y88x11⟩) hHeld ?_
              case hyr1y88x11 => (intro wH hSw; (try dsimp only at hSw); go_simp; (try with_reducible rfl))
              simp only [Act.put, List.setIfInBounds_toArray, List.set_cons_zero, List.set_cons_succ]
              refine wpAnyH_take (i := 12) (v := .int .i64 n) nth12 (by kernel_rfl) (by kernel_rfl) (by kernel_rfl) (fun _ _ _ h => h) (Or.inl ⟨by rfl, ?hyr1y89x12⟩) hHeld ?_
              case hyr1y89x12 => (intro wH hSw; have hc := hSw.1.2 ix (by simp; omega); rw [hn] at hc; clear hSw; go_simp)
              simp only [Act.put, List.setIfInBounds_toArray, List.set_cons_zero, List.set_cons_succ]
              refine wpAnyH_take (i := 15) (v := ?vr1y90x15) nth15 (by kernel_rfl) (by kernel_rfl) (by kernel_rfl) (fun _ _ _ h => h) (Or.inl ⟨by rfl, ?hyr1y90x15⟩) hHeld ?_
              case hyr1y90x15 => (intro wH hSw; (try dsimp only at hSw); go_simp; (try with_reducible rfl))
              simp only [Act.put, List.setIfInBounds_toArray, List.set_cons_zero, List.set_cons_succ]
              refine wpAnyH_done (by kernel_rfl) ?_ _
              clear hHeld s
              obtain ⟨a1, a2, a3, a4, a5⟩ := ln.s1
              obtain ⟨a6, a7, a8, a9, a10⟩ := ln.s2
              go_wp2_with fail
              exact bodyPost_ret (v := .tuple #[.agg #[.int .i64 x1, .int .i64 y1], .agg #[.int .i64 x2, .int .i64 y2], .int .i64 n]) (by simp [results, Try.results13, go_sem, a1, a2, a6, a7]) rfl ⟨x1, y1, x2, y2, n, rfl, ln.q⟩
            exact AllReadyH.nil
          refine AllReadyH.cons nth6 (fun KK hKK => ?_) ?_
          · clear hHeld s
            go_simp
            have litB : LitAt (u4.alloc (.cells #[.int .i64 0, .int .i64 0, .int .i64 0, .int .i64 0, .int .i64 1, .int .i64 2, .int .i64 3] 3)) u4.heap.size [0, 0, 0, 0, 1, 2, 3] := LitAt.new u4 [0, 0, 0, 0, 1, 2, 3] 3
            have szB : u4.heap.size < (u4.alloc (.cells #[.int .i64 0, .int .i64 0, .int .i64 0, .int .i64 0, .int .i64 1, .int .i64 2, .int .i64 3] 3)).heap.size := by simp
            have gtB : K2 < u4.heap.size := ln.c2.2.2.2.2
            replace ln := ln.alloc (.cells #[.int .i64 0, .int .i64 0, .int .i64 0, .int .i64 0, .int .i64 1, .int .i64 2, .int .i64 3] 3)
            generalize u4.alloc (.cells #[.int .i64 0, .int .i64 0, .int .i64 0, .int .i64 0, .int .i64 1, .int .i64 2, .int .i64 3] 3) = u5 at *
            generalize u4.heap.size = JB at *
            have s := (And.intro (And.intro ln.c1.1 ln.c1.2.1) (And.intro ln.c2.1 ln.c2.2.1))
            refine hKK.out _ _ s (fun hHeld => ?_)
            clear hKK KK hHeld
            try simp only [Act.put, List.setIfInBounds_toArray, List.set_cons_zero, List.set_cons_succ]
            clear s
            have s := (And.intro (And.intro (And.intro ln.c1.1 ln.c1.2.1) (And.intro ln.c2.1 ln.c2.2.1)) litB)
            refine wpAnyH_strong (S' := (fun w' => ((w'.cell? ⟨K1, 0, none⟩ = some (.int .i64 x1) ∧ w'.cell? ⟨K1, 1, none⟩ = some (.int .i64 y1)) ∧ (w'.cell? ⟨K2, 0, none⟩ = some (.int .i64 x2) ∧ w'.cell? ⟨K2, 1, none⟩ = some (.int .i64 y2))) ∧ (LitAt w' JB [0, 0, 0, 0, 1, 2, 3]))) (fun _ h => h.1) ?_
            have hHeld := s
            refine wpAnyH_take (i := 9) (v := ?vr1y91x9) nth9 (by kernel_rfl) (by kernel_rfl) (by kernel_rfl) (fun _ _ _ h => h) (Or.inl ⟨by rfl, ?hyr1y91x9⟩) hHeld ?_
            case hyr1y91x9 => (intro wH hSw; (try dsimp only at hSw); go_simp; (try with_reducible rfl))
            simp only [Act.put, List.setIfInBounds_toArray, List.set_cons_zero, List.set_cons_succ]
            refine wpAnyH_take (i := 10) (v := .int .i64 (ix : Int)) nth10 (by kernel_rfl) (by kernel_rfl) (by kernel_rfl) (fun _ _ _ h => h) (Or.inl ⟨by rfl, ?hyr1y92x10⟩) hHeld ?_
            case hyr1y92x10 => (intro wH hSw; have hc := hSw.2 t (by simp; omega); rw [ix1] at hc; clear hSw; go_simp)
            simp only [Act.put, List.setIfInBounds_toArray, List.set_cons_zero, List.set_cons_succ]
            refine wpAnyH_ready (rs := [5]) (by kernel_rfl) (by simp) ?_
            refine AllReadyH.cons nth5 (fun KK hKK => ?_) ?_
            · clear hHeld s
              go_simp
              have litA : LitAt (u5.alloc (.cells #[.int .i64 (1 + (p : Int)), .int .i64 0, .int .i64 401, .int .i64 1] 3)) u5.heap.size [1 + (p : Int), 0, 401, 1] := LitAt.new u5 [1 + (p : Int), 0, 401, 1] 3
              have szA : u5.heap.size < (u5.alloc (.cells #[.int .i64 (1 + (p : Int)), .int .i64 0, .int .i64 401, .int .i64 1] 3)).heap.size := by simp
              replace litB := litB.alloc szB (.cells #[.int .i64 (1 + (p : Int)), .int .i64 0, .int .i64 401, .int .i64 1] 3)
              replace szB : JB < (u5.alloc (.cells #[.int .i64 (1 + (p : Int)), .int .i64 0, .int .i64 401, .int .i64 1] 3)).heap.size := by simp; omega
              have gtA : K2 < u5.heap.size := ln.c2.2.2.2.2
              replace ln := ln.alloc (.cells #[.int .i64 (1 + (p : Int)), .int .i64 0, .int .i64 401, .int .i64 1] 3)
              generalize u5.alloc (.cells #[.int .i64 (1 + (p : Int)), .int .i64 0, .int .i64 401, .int .i64 1] 3) = u6 at *
              generalize u5.heap.size = JA at *
              have s := (And.intro (And.intro (And.intro ln.c1.1 ln.c1.2.1) (And.intro ln.c2.1 ln.c2.2.1)) litB)
              refine hKK.out _ _ s (fun hHeld => ?_)
              clear hKK KK hHeld
              try simp only [Act.put, List.setIfInBounds_toArray, List.set_cons_zero, List.set_cons_succ]
              clear s
              have s := (And.intro (And.intro (And.intro (And.intro ln.c1.1 ln.c1.2.1) (And.intro ln.c2.1 ln.c2.2.1)) litB) litA)
              refine wpAnyH_strong (S' := (fun w' => (((w'.cell? ⟨K1, 0, none⟩ = some (.int .i64 x1) ∧ w'.cell? ⟨K1, 1, none⟩ = some (.int .i64 y1)) ∧ (w'.cell? ⟨K2, 0, none⟩ = some (.int .i64 x2) ∧ w'.cell? ⟨K2, 1, none⟩ = some (.int .i64 y2))) ∧ (LitAt w' JB [0, 0, 0, 0, 1, 2, 3])) ∧ (LitAt w' JA [1 + (p : Int), 0, 401, 1]))) (fun _ h => h.1) ?_
              have hHeld := s
              refine wpAnyH_take (i := 11) (v := ?vr1y93x11) nth11 (by kernel_rfl) (by kernel_rfl) (by kernel_rfl) (fun _ _ _ h => h) (Or.inl ⟨by rfl, ?hyr1y93x11⟩) hHeld ?_
              case hyr1y93x11 => (intro wH hSw; (try dsimp only at hSw); go_simp; (try with_reducible rfl))
              simp only [Act.put, List.setIfInBounds_toArray, List.set_cons_zero, List.set_cons_succ]
              refine wpAnyH_take (i := 12) (v := .int .i64 n) nth12 (by kernel_rfl) (by kernel_rfl) (by kernel_rfl) (fun _ _ _ h => h) (Or.inl ⟨by rfl, ?hyr1y94x12⟩) hHeld ?_
              case hyr1y94x12 => (intro wH hSw; have hc := hSw.2 ix (by simp; omega); rw [hn] at hc; clear hSw; go_simp)
              simp only [Act.put, List.setIfInBounds_toArray, List.set_cons_zero, List.set_cons_succ]
              refine wpAnyH_take (i := 15) (v := ?vr1y95x15) nth15 (by kernel_rfl) (by kernel_rfl) (by kernel_rfl) (fun _ _ _ h => h) (Or.inl ⟨by rfl, ?hyr1y95x15⟩) hHeld ?_
              case hyr1y95x15 => (intro wH hSw; (try dsimp only at hSw); go_simp; (try with_reducible rfl))
              simp only [Act.put, List.setIfInBounds_toArray, List.set_cons_zero, List.set_cons_succ]
              refine wpAnyH_done (by kernel_rfl) ?_ _
              clear hHeld s
              obtain ⟨a1, a2, a3, a4, a5⟩ := ln.s1
              obtain ⟨a6, a7, a8, a9, a10⟩ := ln.s2
              go_wp2_with fail
              exact bodyPost_ret (v := .tuple #[.agg #[.int .i64 x1, .int .i64 y1], .agg #[.int .i64 x2, .int .i64 y2], .int .i64 n]) (by simp [results, Try.results13, go_sem, a1, a2, a6, a7]) rfl ⟨x1, y1, x2, y2, n, rfl, ln.q⟩
            exact AllReadyH.nil
          exact AllReadyH.nil
        exact AllReadyH.nil
      exact AllReadyH.nil
    exact AllReadyH.nil
  refine AllReadyH.cons nth6 (fun KK hKK => ?_) ?_
  · clear hHeld s
    go_simp
    have litB : LitAt (u0.alloc (.cells #[.int .i64 0, .int .i64 0, .int .i64 0, .int .i64 0, .int .i64 1, .int .i64 2, .int .i64 3] 3)) u0.heap.size [0, 0, 0, 0, 1, 2, 3] := LitAt.new u0 [0, 0, 0, 0, 1, 2, 3] 3
    have szB : u0.heap.size < (u0.alloc (.cells #[.int .i64 0, .int .i64 0, .int .i64 0, .int .i64 0, .int .i64 1, .int .i64 2, .int .i64 3] 3)).heap.size := by simp
    have gtB : K2 < u0.heap.size := ln.c2.2.2.2.2
    replace ln := ln.alloc (.cells #[.int .i64 0, .int .i64 0, .int .i64 0, .int .i64 0, .int .i64 1, .int .i64 2, .int .i64 3] 3)
    generalize u0.alloc (.cells #[.int .i64 0, .int .i64 0, .int .i64 0, .int .i64 0, .int .i64 1, .int .i64 2, .int .i64 3] 3) = u1 at *
    generalize u0.heap.size = JB at *
    have s := (And.intro (And.intro ln.c1.1 ln.c1.2.1) (And.intro ln.c2.1 ln.c2.2.1))
    refine hKK.out _ _ s (fun hHeld => ?_)
    clear hKK KK hHeld
    try simp only [Act.put, List.setIfInBounds_toArray, List.set_cons_zero, List.set_cons_succ]
    clear s
    have s := (And.intro (And.intro (And.intro ln.c1.1 ln.c1.2.1) (And.intro ln.c2.1 ln.c2.2.1)) litB)
    refine wpAnyH_strong (S' := (fun w' => ((w'.cell? ⟨K1, 0, none⟩ = some (.int .i64 x1) ∧ w'.cell? ⟨K1, 1, none⟩ = some (.int .i64 y1)) ∧ (w'.cell? ⟨K2, 0, none⟩ = some (.int .i64 x2) ∧ w'.cell? ⟨K2, 1, none⟩ = some (.int .i64 y2))) ∧ (LitAt w' JB [0, 0, 0, 0, 1, 2, 3]))) (fun _ h => h.1) ?_
    have hHeld := s
    refine wpAnyH_ready (rs := [3]) (by kernel_rfl) (by simp) ?_
    refine AllReadyH.cons nth3 (fun KK hKK => ?_) ?_
    · clear hHeld s
      go_simp
      go_at_call 28
      refine (pick_any R 16 _ _ ln.r (by omega) (by omega) (by omega)).mono ?_
      rintro e u2 ⟨p_, pp, pq, rfl, r, b⟩
      replace litB := litB.beside b szB (by omega)
      replace szB := Nat.lt_of_lt_of_le szB b.size
      replace ln := ln.beside r b
      clear b r
      obtain ⟨p, rfl⟩ : ∃ t : Nat, p_ = t := ⟨p_.toNat, by omega⟩
      have pl : p < 20 := by omega
      have ew : IntKind.i64.wrap (1 + (p : Int)) = 1 + (p : Int) := IntWalk.i64_in _ (by omega)
      have s := (And.intro (And.intro (And.intro ln.c1.1 ln.c1.2.1) (And.intro ln.c2.1 ln.c2.2.1)) litB)
      refine hKK.out _ _ s (fun hHeld => ?_)
      clear hKK KK hHeld
      try simp only [Act.put, List.setIfInBounds_toArray, List.set_cons_zero, List.set_cons_succ]
      have hHeld := s
      refine wpAnyH_take (i := 4) (v := ?vr1y96x4) nth4 (by kernel_rfl) (by kernel_rfl) (by kernel_rfl) (fun _ _ _ h => h) (Or.inl ⟨by rfl, ?hyr1y96x4⟩) hHeld ?_
      case hyr1y96x4 => (intro wH hSw; (try dsimp only at hSw); go_simp; (try with_reducible rfl))
      simp only [Act.put, List.setIfInBounds_toArray, List.set_cons_zero, List.set_cons_succ]
      refine wpAnyH_ready (rs := [5, 8]) (by kernel_rfl) (by simp) ?_
      refine AllReadyH.cons nth5 (fun KK hKK => ?_) ?_
      · clear hHeld s
        go_simp
        have litA : LitAt (u2.alloc (.cells #[.int .i64 (1 + (p : Int)), .int .i64 0, .int .i64 401, .int .i64 1] 3)) u2.heap.size [1 + (p : Int), 0, 401, 1] := LitAt.new u2 [1 + (p : Int), 0, 401, 1] 3
        have szA : u2.heap.size < (u2.alloc (.cells #[.int .i64 (1 + (p : Int)), .int .i64 0, .int .i64 401, .int .i64 1] 3)).heap.size := by simp
        replace litB := litB.alloc szB (.cells #[.int .i64 (1 + (p : Int)), .int .i64 0, .int .i64 401, .int .i64 1] 3)
        replace szB : JB < (u2.alloc (.cells #[.int .i64 (1 + (p : Int)), .int .i64 0, .int .i64 401, .int .i64 1] 3)).heap.size := by simp; omega
        have gtA : K2 < u2.heap.size := ln.c2.2.2.2.2
        replace ln := ln.alloc (.cells #[.int .i64 (1 + (p : Int)), .int .i64 0, .int .i64 401, .int .i64 1] 3)
        generalize u2.alloc (.cells #[.int .i64 (1 + (p : Int)), .int .i64 0, .int .i64 401, .int .i64 1] 3) = u3 at *
        generalize u2.heap.size = JA at *
        have s := (And.intro (And.intro (And.intro ln.c1.1 ln.c1.2.1) (And.intro ln.c2.1 ln.c2.2.1)) litB)
        refine hKK.out _ _ s (fun hHeld => ?_)
        clear hKK KK hHeld
        try simp only [Act.put, List.setIfInBounds_toArray, List.set_cons_zero, List.set_cons_succ]
        clear s
        have s := (And.intro (And.intro (And.intro (And.intro ln.c1.1 ln.c1.2.1) (And.intro ln.c2.1 ln.c2.2.1)) litB) litA)
        refine wpAnyH_strong (S' := (fun w' => (((w'.cell? ⟨K1, 0, none⟩ = some (.int .i64 x1) ∧ w'.cell? ⟨K1, 1, none⟩ = some (.int .i64 y1)) ∧ (w'.cell? ⟨K2, 0, none⟩ = some (.int .i64 x2) ∧ w'.cell? ⟨K2, 1, none⟩ = some (.int .i64 y2))) ∧ (LitAt w' JB [0, 0, 0, 0, 1, 2, 3])) ∧ (LitAt w' JA [1 + (p : Int), 0, 401, 1]))) (fun _ h => h.1) ?_
        have hHeld := s
        refine wpAnyH_ready (rs := [8]) (by kernel_rfl) (by simp) ?_
        refine AllReadyH.cons nth8 (fun KK hKK => ?_) ?_
        · clear hHeld s
          go_simp
          go_at_call 28
          refine (pick_any R 17 _ _ ln.r (by omega) (by omega) (by omega)).mono ?_
          rintro e u4 ⟨t_, tp, tq, rfl, r, b⟩
          replace litB := litB.beside b szB (by omega)
          replace szB := Nat.lt_of_lt_of_le szB b.size
          replace litA := litA.beside b szA (by omega)
          replace szA := Nat.lt_of_lt_of_le szA b.size
          replace ln := ln.beside r b
          clear b r
          obtain ⟨t, rfl⟩ : ∃ t : Nat, t_ = t := ⟨t_.toNat, by omega⟩
          have tl : t < 7 := by omega
          obtain ⟨ix1, ix2⟩ := line_idx t tl
          generalize hix : (([0, 0, 0, 0, 1, 2, 3] : List Int).getD t 0).toNat = ix at ix1 ix2
          clear hix
          have ix3 : (ix : Int) < 4 := by omega
          obtain ⟨n, hn⟩ : ∃ n, ([1 + (p : Int), 0, 401, 1] : List Int).getD ix 0 = n := ⟨_, rfl⟩
          replace ln := ln.fin
          have s := (And.intro (And.intro (And.intro (And.intro ln.c1.1 ln.c1.2.1) (And.intro ln.c2.1 ln.c2.2.1)) litB) litA)
          refine hKK.out _ _ s (fun hHeld => ?_)
          clear hKK KK hHeld
          try simp only [Act.put, List.setIfInBounds_toArray, List.set_cons_zero, List.set_cons_succ]
          have hHeld := s
          refine wpAnyH_take (i := 9) (v := ?vr1y97x9) nth9 (by kernel_rfl) (by kernel_rfl) (by kernel_rfl) (fun _ _ _ h => h) (Or.inl ⟨by rfl, ?hyr1y97x9⟩) hHeld ?_
          case hyr1y97x9 => (intro wH hSw; (try dsimp only at hSw); go_simp; (try with_reducible rfl))
          simp only [Act.put, List.setIfInBounds_toArray, List.set_cons_zero, List.set_cons_succ]
          refine wpAnyH_take (i := 10) (v := .int .i64 (ix : Int)) nth10 (by kernel_rfl) (by kernel_rfl) (by kernel_rfl) (fun _ _ _ h => h) (Or.inl ⟨by rfl, ?hyr1y98x10⟩) hHeld ?_
          case hyr1y98x10 => (intro wH hSw; have hc := hSw.1.2 t (by simp; omega); rw [ix1] at hc; clear hSw; go_simp)
          simp only [Act.put, List.setIfInBounds_toArray, List.set_cons_zero, List.set_cons_succ]
          refine wpAnyH_take (i := 11) (v := ?vr1y99x11) nth11 (by kernel_rfl) (by kernel_rfl) (by kernel_rfl) (fun _ _ _ h => h) (Or.inl ⟨by rfl, ?hyr1y99x11⟩) hHeld ?_
          case hyr1y99x11 => (intro wH hSw; (try dsimp only at hSw); go_simp; (try with_reducible rfl))
          simp only [Act.put, List.setIfInBounds_toArray, List.set_cons_zero, List.set_cons_succ]
          refine wpAnyH_take (i := 12) (v := .int .i64 n) nth12 (by kernel_rfl) (by kernel_rfl) (by kernel_rfl) (fun _ _ _ h => h) (Or.inl ⟨by rfl, ?hyr1y100x12⟩) hHeld ?_
          case hyr1y100x12 => (intro wH hSw; have hc := hSw.2 ix (by simp; omega); rw [hn] at hc; clear hSw; go_simp)
          simp only [Act.put, List.setIfInBounds_toArray, List.set_cons_zero, List.set_cons_succ]
          refine wpAnyH_ready (rs := [13]) (by kernel_rfl) (by simp) ?_
          refine AllReadyH.cons nth13 (fun KK hKK => ?_) ?_
          · clear hHeld s
            obtain ⟨a1, a2, a3, a4, a5⟩ := ln.s1
            go_simp
            clear a1 a2 a3 a4 a5
            replace litB := (litB.set (.int .i64 x1) (j := w.heap.size) (o := 0) (by omega)).set (.int .i64 y1) (j := w.heap.size) (o := 1) (by omega)
            replace szB : JB < ((u4.setCell ⟨w.heap.size, 0, none⟩ (.int .i64 x1)).setCell ⟨w.heap.size, 1, none⟩ (.int .i64 y1)).heap.size := by simpa [World.setCell] using szB
            replace litA := (litA.set (.int .i64 x1) (j := w.heap.size) (o := 0) (by omega)).set (.int .i64 y1) (j := w.heap.size) (o := 1) (by omega)
            replace szA : JA < ((u4.setCell ⟨w.heap.size, 0, none⟩ (.int .i64 x1)).setCell ⟨w.heap.size, 1, none⟩ (.int .i64 y1)).heap.size := by simpa [World.setCell] using szA
            replace ln := ln.put1 x1 y1
            generalize ((u4.setCell ⟨w.heap.size, 0, none⟩ (.int .i64 x1)).setCell ⟨w.heap.size, 1, none⟩ (.int .i64 y1)) = u5 at *
            have s := (And.intro (And.intro (And.intro (And.intro ln.c1.1 ln.c1.2.1) (And.intro ln.c2.1 ln.c2.2.1)) litB) litA)
            refine hKK.out _ _ s (fun hHeld => ?_)
            clear hKK KK hHeld
            try simp only [Act.put, List.setIfInBounds_toArray, List.set_cons_zero, List.set_cons_succ]
            have hHeld := s
            refine wpAnyH_ready (rs := [14]) (by kernel_rfl) (by simp) ?_
            refine AllReadyH.cons nth14 (fun KK hKK => ?_) ?_
            · clear hHeld s
              obtain ⟨a1, a2, a3, a4, a5⟩ := ln.s2
              go_simp
              clear a1 a2 a3 a4 a5
              replace litB := (litB.set (.int .i64 x2) (j := w.heap.size + 1) (o := 0) (by omega)).set (.int .i64 y2) (j := w.heap.size + 1) (o := 1) (by omega)
              replace szB : JB < ((u5.setCell ⟨w.heap.size + 1, 0, none⟩ (.int .i64 x2)).setCell ⟨w.heap.size + 1, 1, none⟩ (.int .i64 y2)).heap.size := by simpa [World.setCell] using szB
              replace litA := (litA.set (.int .i64 x2) (j := w.heap.size + 1) (o := 0) (by omega)).set (.int .i64 y2) (j := w.heap.size + 1) (o := 1) (by omega)
              replace szA : JA < ((u5.setCell ⟨w.heap.size + 1, 0, none⟩ (.int .i64 x2)).setCell ⟨w.heap.size + 1, 1, none⟩ (.int .i64 y2)).heap.size := by simpa [World.setCell] using szA
              replace ln := ln.put2 x2 y2
              generalize ((u5.setCell ⟨w.heap.size + 1, 0, none⟩ (.int .i64 x2)).setCell ⟨w.heap.size + 1, 1, none⟩ (.int .i64 y2)) = u6 at *
              have s := (And.intro (And.intro (And.intro (And.intro ln.c1.1 ln.c1.2.1) (And.intro ln.c2.1 ln.c2.2.1)) litB) litA)
              refine hKK.out _ _ s (fun hHeld => ?_)
              clear hKK KK hHeld
              try simp only [Act.put, List.setIfInBounds_toArray, List.set_cons_zero, List.set_cons_succ]
              have hHeld := s
              refine wpAnyH_take (i := 15) (v := ?vr1y101x15) nth15 (by kernel_rfl) (by kernel_rfl) (by kernel_rfl) (fun _ _ _ h => h) (Or.inl ⟨by rfl, ?hyr1y101x15⟩) hHeld ?_
              case hyr1y101x15 => (intro wH hSw; (try dsimp only at hSw); go_simp; (try with_reducible rfl))
              simp only [Act.put, List.setIfInBounds_toArray, List.set_cons_zero, List.set_cons_succ]
              refine wpAnyH_done (by kernel_rfl) ?_ _
              clear hHeld s
              obtain ⟨a1, a2, a3, a4, a5⟩ := ln.s1
              obtain ⟨a6, a7, a8, a9, a10⟩ := ln.s2
              go_wp2_with fail
              exact bodyPost_ret (v := .tuple #[.agg #[.int .i64 x1, .int .i64 y1], .agg #[.int .i64 x2, .int .i64 y2], .int .i64 n]) (by simp [results, Try.results13, go_sem, a1, a2, a6, a7]) rfl ⟨x1, y1, x2, y2, n, rfl, ln.q⟩
            exact AllReadyH.nil
          exact AllReadyH.nil
        exact AllReadyH.nil
      refine AllReadyH.cons nth8 (fun KK hKK => ?_) ?_
      · clear hHeld s
        go_simp
        go_at_call 28
        refine (pick_any R 17 _ _ ln.r (by omega) (by omega) (by omega)).mono ?_
        rintro e u3 ⟨t_, tp, tq, rfl, r, b⟩
        replace litB := litB.beside b szB (by omega)
        replace szB := Nat.lt_of_lt_of_le szB b.size
        replace ln := ln.beside r b
        clear b r
        obtain ⟨t, rfl⟩ : ∃ t : Nat, t_ = t := ⟨t_.toNat, by omega⟩
        have tl : t < 7 := by omega
        obtain ⟨ix1, ix2⟩ := line_idx t tl
        generalize hix : (([0, 0, 0, 0, 1, 2, 3] : List Int).getD t 0).toNat = ix at ix1 ix2
        clear hix
        have ix3 : (ix : Int) < 4 := by omega
        obtain ⟨n, hn⟩ : ∃ n, ([1 + (p : Int), 0, 401, 1] : List Int).getD ix 0 = n := ⟨_, rfl⟩
        replace ln := ln.fin
        have s := (And.intro (And.intro (And.intro ln.c1.1 ln.c1.2.1) (And.intro ln.c2.1 ln.c2.2.1)) litB)
        refine hKK.out _ _ s (fun hHeld => ?_)
        clear hKK KK hHeld
        try simp only [Act.put, List.setIfInBounds_toArray, List.set_cons_zero, List.set_cons_succ]
        have hHeld := s
        refine wpAnyH_take (i := 9) (v := ?vr1y102x9) nth9 (by kernel_rfl) (by kernel_rfl) (by kernel_rfl) (fun _ _ _ h => h) (Or.inl ⟨by rfl, ?hyr1y102x9⟩) hHeld ?_
        case hyr1y102x9 => (intro wH hSw; (try dsimp only at hSw); go_simp; (try with_reducible rfl))
        simp only [Act.put, List.setIfInBounds_toArray, List.set_cons_zero, List.set_cons_succ]
        refine wpAnyH_take (i := 10) (v := .int .i64 (ix : Int)) nth10 (by kernel_rfl) (by kernel_rfl) (by kernel_rfl) (fun _ _ _ h => h) (Or.inl ⟨by rfl, ?hyr1y103x10⟩) hHeld ?_
        case hyr1y103x10 => (intro wH hSw; have hc := hSw.2 t (by simp; omega); rw [ix1] at hc; clear hSw; go_simp)
        simp only [Act.put, List.setIfInBounds_toArray, List.set_cons_zero, List.set_cons_succ]
        refine wpAnyH_ready (rs := [5, 13]) (by kernel_rfl) (by simp) ?_
        refine AllReadyH.cons nth5 (fun KK hKK => ?_) ?_
        · clear hHeld s
          go_simp
          have litA : LitAt (u3.alloc (.cells #[.int .i64 (1 + (p : Int)), .int .i64 0, .int .i64 401, .int .i64 1] 3)) u3.heap.size [1 + (p : Int), 0, 401, 1] := LitAt.new u3 [1 + (p : Int), 0, 401, 1] 3
          have szA : u3.heap.size < (u3.alloc (.cells #[.int .i64 (1 + (p : Int)), .int .i64 0, .int .i64 401, .int .i64 1] 3)).heap.size := by simp
          replace litB := litB.alloc szB (.cells #[.int .i64 (1 + (p : Int)), .int .i64 0, .int .i64 401, .int .i64 1] 3)
          replace szB : JB < (u3.alloc (.cells #[.int .i64 (1 + (p : Int)), .int .i64 0, .int .i64 401, .int .i64 1] 3)).heap.size := by simp; omega
          have gtA : K2 < u3.heap.size := ln.c2.2.2.2.2
          replace ln := ln.alloc (.cells #[.int .i64 (1 + (p : Int)), .int .i64 0, .int .i64 401, .int .i64 1] 3)
          generalize u3.alloc (.cells #[.int .i64 (1 + (p : Int)), .int .i64 0, .int .i64 401, .int .i64 1] 3) = u4 at *
          generalize u3.heap.size = JA at *
          have s := (And.intro (And.intro (And.intro ln.c1.1 ln.c1.2.1) (And.intro ln.c2.1 ln.c2.2.1)) litB)
          refine hKK.out _ _ s (fun hHeld => ?_)
          clear hKK KK hHeld
          try simp only [Act.put, List.setIfInBounds_toArray, List.set_cons_zero, List.set_cons_succ]
          clear s
          have s := (And.intro (And.intro (And.intro (And.intro ln.c1.1 ln.c1.2.1) (And.intro ln.c2.1 ln.c2.2.1)) litB) litA)
          refine wpAnyH_strong (S' := (fun w' => (((w'.cell? ⟨K1, 0, none⟩ = some (.int .i64 x1) ∧ w'.cell? ⟨K1, 1, none⟩ = some (.int .i64 y1)) ∧ (w'.cell? ⟨K2, 0, none⟩ = some (.int .i64 x2) ∧ w'.cell? ⟨K2, 1, none⟩ = some (.int .i64 y2))) ∧ (LitAt w' JB [0, 0, 0, 0, 1, 2, 3])) ∧ (LitAt w' JA [1 + (p : Int), 0, 401, 1]))) (fun _ h => h.1) ?_
          have hHeld := s
          refine wpAnyH_take (i := 11) (v := ?vr1y104x11) nth11 (by kernel_rfl) (by kernel_rfl) (by kernel_rfl) (fun _ _ _ h => h) (Or.inl ⟨by rfl, ?hyr1y104x11⟩) hHeld ?_
          case hyr1y104x11 => (intro wH hSw; (try dsimp only at hSw); go_simp; (try with_reducible rfl))
          simp only [Act.put, List.setIfInBounds_toArray, List.set_cons_zero, List.set_cons_succ]
          refine wpAnyH_take (i := 12) (v := .int .i64 n) nth12 (by kernel_rfl) (by kernel_rfl) (by kernel_rfl) (fun _ _ _ h => h) (Or.inl ⟨by rfl, ?hyr1y105x12⟩) hHeld ?_
          case hyr1y105x12 => (intro wH hSw; have hc := hSw.2 ix (by simp; omega); rw [hn] at hc; clear hSw; go_simp)
          simp only [Act.put, List.setIfInBounds_toArray, List.set_cons_zero, List.set_cons_succ]
          refine wpAnyH_ready (rs := [13]) (by kernel_rfl) (by simp) ?_
          refine AllReadyH.cons nth13 (fun KK hKK => ?_) ?_
          · clear hHeld s
            obtain ⟨a1, a2, a3, a4, a5⟩ := ln.s1
            go_simp
            clear a1 a2 a3 a4 a5
            replace litB := (litB.set (.int .i64 x1) (j := w.heap.size) (o := 0) (by omega)).set (.int .i64 y1) (j := w.heap.size) (o := 1) (by omega)
            replace szB : JB < ((u4.setCell ⟨w.heap.size, 0, none⟩ (.int .i64 x1)).setCell ⟨w.heap.size, 1, none⟩ (.int .i64 y1)).heap.size := by simpa [World.setCell] using szB
            replace litA := (litA.set (.int .i64 x1) (j := w.heap.size) (o := 0) (by omega)).set (.int .i64 y1) (j := w.heap.size) (o := 1) (by omega)
            replace szA : JA < ((u4.setCell ⟨w.heap.size, 0, none⟩ (.int .i64 x1)).setCell ⟨w.heap.size, 1, none⟩ (.int .i64 y1)).heap.size := by simpa [World.setCell] using szA
            replace ln := ln.put1 x1 y1
            generalize ((u4.setCell ⟨w.heap.size, 0, none⟩ (.int .i64 x1)).setCell ⟨w.heap.size, 1, none⟩ (.int .i64 y1)) = u5 at *
            have s := (And.intro (And.intro (And.intro (And.intro ln.c1.1 ln.c1.2.1) (And.intro ln.c2.1 ln.c2.2.1)) litB) litA)
            refine hKK.out _ _ s (fun hHeld => ?_)
            clear hKK KK hHeld
            try simp only [Act.put, List.setIfInBounds_toArray, List.set_cons_zero, List.set_cons_succ]
            have hHeld := s
            refine wpAnyH_ready (rs := [14]) (by kernel_rfl) (by simp) ?_
            refine AllReadyH.cons nth14 (fun KK hKK => ?_) ?_
            · clear hHeld s
              obtain ⟨a1, a2, a3, a4, a5⟩ := ln.s2
              go_simp
              clear a1 a2 a3 a4 a5
              replace litB := (litB.set (.int .i64 x2) (j := w.heap.size + 1) (o := 0) (by omega)).set (.int .i64 y2) (j := w.heap.size + 1) (o := 1) (by omega)
              replace szB : JB < ((u5.setCell ⟨w.heap.size + 1, 0, none⟩ (.int .i64 x2)).setCell ⟨w.heap.size + 1, 1, none⟩ (.int .i64 y2)).heap.size := by simpa [World.setCell] using szB
              replace litA := (litA.set (.int .i64 x2) (j := w.heap.size + 1) (o := 0) (by omega)).set (.int .i64 y2) (j := w.heap.size + 1) (o := 1) (by omega)
              replace szA : JA < ((u5.setCell ⟨w.heap.size + 1, 0, none⟩ (.int .i64 x2)).setCell ⟨w.heap.size + 1, 1, none⟩ (.int .i64 y2)).heap.size := by simpa [World.setCell] using szA
              replace ln := ln.put2 x2 y2
              generalize ((u5.setCell ⟨w.heap.size + 1, 0, none⟩ (.int .i64 x2)).setCell ⟨w.heap.size + 1, 1, none⟩ (.int .i64 y2)) = u6 at *
              have s := (And.intro (And.intro (And.intro (And.intro ln.c1.1 ln.c1.2.1) (And.intro ln.c2.1 ln.c2.2.1)) litB) litA)
              refine hKK.out _ _ s (fun hHeld => ?_)
              clear hKK KK hHeld
              try simp only [Act.put, List.setIfInBounds_toArray, List.set_cons_zero, List.set_cons_succ]
              have hHeld := s
              refine wpAnyH_take (i := 15) (v := ?vr1y106x15) nth15 (by kernel_rfl) (by kernel_rfl) (by kernel_rfl) (fun _ _ _ h => h) (Or.inl ⟨by rfl, ?hyr1y106x15⟩) hHeld ?_
              case hyr1y106x15 => (intro wH hSw; (try dsimp only at hSw); go_simp; (try with_reducible rfl))
              simp only [Act.put, List.setIfInBounds_toArray, List.set_cons_zero, List.set_cons_succ]
              refine wpAnyH_done (by kernel_rfl) ?_ _
              clear hHeld s
              obtain ⟨a1, a2, a3, a4, a5⟩ := ln.s1
              obtain ⟨a6, a7, a8, a9, a10⟩ := ln.s2
              go_wp2_with fail
              exact bodyPost_ret (v := .tuple #[.agg #[.int .i64 x1, .int .i64 y1], .agg #[.int .i64 x2, .int .i64 y2], .int .i64 n]) (by simp [results, Try.results13, go_sem, a1, a2, a6, a7]) rfl ⟨x1, y1, x2, y2, n, rfl, ln.q⟩
            exact AllReadyH.nil
          exact AllReadyH.nil
        refine AllReadyH.cons nth13 (fun KK hKK => ?_) ?_
        · clear hHeld s
          obtain ⟨a1, a2, a3, a4, a5⟩ := ln.s1
          go_simp
          clear a1 a2 a3 a4 a5
          replace litB := (litB.set (.int .i64 x1) (j := w.heap.size) (o := 0) (by omega)).set (.int .i64 y1) (j := w.heap.size) (o := 1) (by omega)
          replace szB : JB < ((u3.setCell ⟨w.heap.size, 0, none⟩ (.int .i64 x1)).setCell ⟨w.heap.size, 1, none⟩ (.int .i64 y1)).heap.size := by simpa [World.setCell] using szB
          replace ln := ln.put1 x1 y1
          generalize ((u3.setCell ⟨w.heap.size, 0, none⟩ (.int .i64 x1)).setCell ⟨w.heap.size, 1, none⟩ (.int .i64 y1)) = u4 at *
          have s := (And.intro (And.intro (And.intro ln.c1.1 ln.c1.2.1) (And.intro ln.c2.1 ln.c2.2.1)) litB)
          refine hKK.out _ _ s (fun hHeld => ?_)
          clear hKK KK hHeld
          try simp only [Act.put, List.setIfInBounds_toArray, List.set_cons_zero, List.set_cons_succ]
          have hHeld := s
          refine wpAnyH_ready (rs := [5, 14]) (by kernel_rfl) (by simp) ?_
          refine AllReadyH.cons nth5 (fun KK hKK => ?_) ?_
          · clear hHeld s
            go_simp
            have litA : LitAt (u4.alloc (.cells #[.int .i64 (1 + (p : Int)), .int .i64 0, .int .i64 401, .int .i64 1] 3)) u4.heap.size [1 + (p : Int), 0, 401, 1] := LitAt.new u4 [1 + (p : Int), 0, 401, 1] 3
            have szA : u4.heap.size < (u4.alloc (.cells #[.int .i64 (1 + (p : Int)), .int .i64 0, .int .i64 401, .int .i64 1] 3)).heap.size := by simp
            replace litB := litB.alloc szB (.cells #[.int .i64 (1 + (p : Int)), .int .i64 0, .int .i64 401, .int .i64 1] 3)
            replace szB : JB < (u4.alloc (.cells #[.int .i64 (1 + (p : Int)), .int .i64 0, .int .i64 401, .int .i64 1] 3)).heap.size := by simp; omega
            have gtA : K2 < u4.heap.size := ln.c2.2.2.2.2
            replace ln := ln.alloc (.cells #[.int .i64 (1 + (p : Int)), .int .i64 0, .int .i64 401, .int .i64 1] 3)
            generalize u4.alloc (.cells #[.int .i64 (1 + (p : Int)), .int .i64 0, .int .i64 401, .int .i64 1] 3) = u5 at *
            generalize u4.heap.size = JA at *
            have s := (And.intro (And.intro (And.intro ln.c1.1 ln.c1.2.1) (And.intro ln.c2.1 ln.c2.2.1)) litB)
            refine hKK.out _ _ s (fun hHeld => ?_)
            clear hKK KK hHeld
            try simp only [Act.put, List.setIfInBounds_toArray, List.set_cons_zero, List.set_cons_succ]
            clear s
            have s := (And.intro (And.intro (And.intro (And.intro ln.c1.1 ln.c1.2.1) (And.intro ln.c2.1 ln.c2.2.1)) litB) litA)
            refine wpAnyH_strong (S' := (fun w' => (((w'.cell? ⟨K1, 0, none⟩ = some (.int .i64 x1) ∧ w'.cell? ⟨K1, 1, none⟩ = some (.int .i64 y1)) ∧ (w'.cell? ⟨K2, 0, none⟩ = some (.int .i64 x2) ∧ w'.cell? ⟨K2, 1, none⟩ = some (.int .i64 y2))) ∧ (LitAt w' JB [0, 0, 0, 0, 1, 2, 3])) ∧ (LitAt w' JA [1 + (p : Int), 0, 401, 1]))) (fun _ h => h.1) ?_
            have hHeld := s
            refine wpAnyH_take (i := 11) (v := ?vr1y107x11) nth11 (by kernel_rfl) (by kernel_rfl) (by kernel_rfl) (fun _ _ _ h => h) (Or.inl ⟨by rfl, ?hyr1y107x11⟩) hHeld ?_
            case hyr1y107x11 => (intro wH hSw; (try dsimp only at hSw); go_simp; (try with_reducible rfl))
            simp only [Act.put, List.setIfInBounds_toArray, List.set_cons_zero, List.set_cons_succ]
            refine wpAnyH_take (i := 12) (v := .int .i64 n) nth12 (by kernel_rfl) (by kernel_rfl) (by kernel_rfl) (fun _ _ _ h => h) (Or.inl ⟨by rfl, ?hyr1y108x12⟩) hHeld ?_
            case hyr1y108x12 => (intro wH hSw; have hc := hSw.2 ix (by simp; omega); rw [hn] at hc; clear hSw; go_simp)
            simp only [Act.put, List.setIfInBounds_toArray, List.set_cons_zero, List.set_cons_succ]
            refine wpAnyH_ready (rs := [14]) (by kernel_rfl) (by simp) ?_
            refine AllReadyH.cons nth14 (fun KK hKK => ?_) ?_
            · clear hHeld s
              obtain ⟨a1, a2, a3, a4, a5⟩ := ln.s2
              go_simp
              clear a1 a2 a3 a4 a5
              replace litB := (litB.set (.int .i64 x2) (j := w.heap.size + 1) (o := 0) (by omega)).set (.int .i64 y2) (j := w.heap.size + 1) (o := 1) (by omega)
              replace szB : JB < ((u5.setCell ⟨w.heap.size + 1, 0, none⟩ (.int .i64 x2)).setCell ⟨w.heap.size + 1, 1, none⟩ (.int .i64 y2)).heap.size := by simpa [World.setCell] using szB
              replace litA := (litA.set (.int .i64 x2) (j := w.heap.size + 1) (o := 0) (by omega)).set (.int .i64 y2) (j := w.heap.size + 1) (o := 1) (by omega)
              replace szA : JA < ((u5.setCell ⟨w.heap.size + 1, 0, none⟩ (.int .i64 x2)).setCell ⟨w.heap.size + 1, 1, none⟩ (.int .i64 y2)).heap.size := by simpa [World.setCell] using szA
              replace ln := ln.put2 x2 y2
              generalize ((u5.setCell ⟨w.heap.size + 1, 0, none⟩ (.int .i64 x2)).setCell ⟨w.heap.size + 1, 1, none⟩ (.int .i64 y2)) = u6 at *
              have s := (And.intro (And.intro (And.intro (And.intro ln.c1.1 ln.c1.2.1) (And.intro ln.c2.1 ln.c2.2.1)) litB) litA)
              refine hKK.out _ _ s (fun hHeld => ?_)
              clear hKK KK hHeld
              try simp only [Act.put, List.setIfInBounds_toArray, List.set_cons_zero, List.set_cons_succ]
              have hHeld := s
              refine wpAnyH_take (i := 15) (v := ?vr1y109x15) nth15 (by kernel_rfl) (by kernel_rfl) (by kernel_rfl) (fun _ _ _ h => h) (Or.inl ⟨by rfl, ?hyr1y109x15⟩) hHeld ?_
              case hyr1y109x15 => (intro wH hSw; (try dsimp only at hSw); go_simp; (try with_reducible rfl))
              simp only [Act.put, List.setIfInBounds_toArray, List.set_cons_zero, List.set_cons_succ]
              refine wpAnyH_done (by kernel_rfl) ?_ _
              clear hHeld s
              obtain ⟨a1, a2, a3, a4, a5⟩ := ln.s1
              obtain ⟨a6, a7, a8, a9, a10⟩ := ln.s2
              go_wp2_with fail
              exact bodyPost_ret (v := .tuple #[.agg #[.int .i64 x1, .int .i64 y1], .agg #[.int .i64 x2, .int .i64 y2], .int .i64 n]) (by simp [results, Try.results13, go_sem, a1, a2, a6, a7]) rfl ⟨x1, y1, x2, y2, n, rfl, ln.q⟩
            exact AllReadyH.nil
          refine AllReadyH.cons nth14 (fun KK hKK => ?_) ?_
          · clear hHeld s
            obtain ⟨a1, a2, a3, a4, a5⟩ := ln.s2
            go_simp
            clear a1 a2 a3 a4 a5
            replace litB := (litB.set (.int .i64 x2) (j := w.heap.size + 1) (o := 0) (by omega)).set (.int .i64 y2) (j := w.heap.size + 1) (o := 1) (by omega)
            replace szB : JB < ((u4.setCell ⟨w.heap.size + 1, 0, none⟩ (.int .i64 x2)).setCell ⟨w.heap.size + 1, 1, none⟩ (.int .i64 y2)).heap.size := by simpa [World.setCell] using szB
            replace ln := ln.put2 x2 y2
            generalize ((u4.setCell ⟨w.heap.size + 1, 0, none⟩ (.int .i64 x2)).setCell ⟨w.heap.size + 1, 1, none⟩ (.int .i64 y2)) = u5 at *
            have s := (And.intro (And.intro (And.intro ln.c1.1 ln.c1.2.1) (And.intro ln.c2.1 ln.c2.2.1)) litB)
            refine hKK.out _ _ s (fun hHeld => ?_)
            clear hKK KK hHeld
            try simp only [Act.put, List.setIfInBounds_toArray, List.set_cons_zero, List.set_cons_succ]
            have hHeld := s
            refine wpAnyH_ready (rs := [5]) (by kernel_rfl) (by simp) ?_
            refine AllReadyH.cons nth5 (fun KK hKK => ?_) ?_
            · clear hHeld s
              go_simp
              have litA : LitAt (u5.alloc (.cells #[.int .i64 (1 + (p : Int)), .int .i64 0, .int .i64 401, .int .i64 1] 3)) u5.heap.size [1 + (p : Int), 0, 401, 1] := LitAt.new u5 [1 + (p : Int), 0, 401, 1] 3
              have szA : u5.heap.size < (u5.alloc (.cells #[.int .i64 (1 + (p : Int)), .int .i64 0, .int .i64 401, .int .i64 1] 3)).heap.size := by simp
              replace litB := litB.alloc szB (.cells #[.int .i64 (1 + (p : Int)), .int .i64 0, .int .i64 401, .int .i64 1] 3)
              replace szB : JB < (u5.alloc (.cells #[.int .i64 (1 + (p : Int)), .int .i64 0, .int .i64 401, .int .i64 1] 3)).heap.size := by simp; omega
              have gtA : K2 < u5.heap.size := ln.c2.2.2.2.2
              replace ln := ln.alloc (.cells #[.int .i64 (1 + (p : Int)), .int .i64 0, .int .i64 401, .int .i64 1] 3)
              generalize u5.alloc (.cells #[.int .i64 (1 + (p : Int)), .int .i64 0, .int .i64 401, .int .i64 1] 3) = u6 at *
              generalize u5.heap.size = JA at *
              have s := (And.intro (And.intro (And.intro ln.c1.1 ln.c1.2.1) (And.intro ln.c2.1 ln.c2.2.1)) litB)
              refine hKK.out _ _ s (fun hHeld => ?_)
              clear hKK KK hHeld
              try simp only [Act.put, List.setIfInBounds_toArray, List.set_cons_zero, List.set_cons_succ]
              clear s
              have s := (And.intro (And.intro (And.intro (And.intro ln.c1.1 ln.c1.2.1) (And.intro ln.c2.1 ln.c2.2.1)) litB) litA)
              refine wpAnyH_strong (S' := (fun w' => (((w'.cell? ⟨K1, 0, none⟩ = some (.int .i64 x1) ∧ w'.cell? ⟨K1, 1, none⟩ = some (.int .i64 y1)) ∧ (w'.cell? ⟨K2, 0, none⟩ = some (.int .i64 x2) ∧ w'.cell? ⟨K2, 1, none⟩ = some (.int .i64 y2))) ∧ (LitAt w' JB [0, 0, 0, 0, 1, 2, 3])) ∧ (LitAt w' JA [1 + (p : Int), 0, 401, 1]))) (fun _ h => h.1) ?_
              have hHeld := s
              refine wpAnyH_take (i := 11) (v := ?vr1y110x11) nth11 (by kernel_rfl) (by kernel_rfl) (by kernel_rfl) (fun _ _ _ h => h) (Or.inl ⟨by rfl, ?hyr1y110x11⟩) hHeld ?_
              case hyr1y110x11 => (intro wH hSw; (try dsimp only at hSw); go_simp; (try with_reducible rfl))
              simp only [Act.put, List.setIfInBounds_toArray, List.set_cons_zero, List.set_cons_succ]
              refine wpAnyH_take (i := 12) (v := .int .i64 n) nth12 (by kernel_rfl) (by kernel_rfl) (by kernel_rfl) (fun _ _ _ h => h) (Or.inl ⟨by rfl, ?hyr1y111x12⟩) hHeld ?_
              case hyr1y111x12 => (intro wH hSw; have hc := hSw.2 ix (by simp; omega); rw [hn] at hc; clear hSw; go_simp)
              simp only [Act.put, List.setIfInBounds_toArray, List.set_cons_zero, List.set_cons_succ]
              refine wpAnyH_take (i := 15) (v := ?vr1y112x15) nth15 (by kernel_rfl) (by kernel_rfl) (by kernel_rfl) (fun _ _ _ h => h) (Or.inl ⟨by rfl, ?hyr1y112x15⟩) hHeld ?_
              case hyr1y112x15 => (intro wH hSw; (try dsimp only at hSw); go_simp; (try with_reducible rfl))
              simp only [Act.put, List.setIfInBounds_toArray, List.set_cons_zero, List.set_cons_succ]
              refine wpAnyH_done (by kernel_rfl) ?_ _
              clear hHeld s
              obtain ⟨a1, a2, a3, a4, a5⟩ := ln.s1
              obtain ⟨a6, a7, a8, a9, a10⟩ := ln.s2
              go_wp2_with fail
              exact bodyPost_ret (v := .tuple #[.agg #[.int .i64 x1, .int .i64 y1], .agg #[.int .i64 x2, .int .i64 y2], .int .i64 n]) (by simp [results, Try.results13, go_sem, a1, a2, a6, a7]) rfl ⟨x1, y1, x2, y2, n, rfl, ln.q⟩
            exact AllReadyH.nil
          exact AllReadyH.nil
        exact AllReadyH.nil
      exact AllReadyH.nil
    exact AllReadyH.nil
  exact AllReadyH.nil
end Go.Proofs.Ytmnpengjklghlaa
