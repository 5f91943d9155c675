/- Contract of the draw of an arm, angles, a point and a number of steps. -/
import Derived.Test.YtmainffjekjlnaaDoorDraws2
import Derived.Test.YtmainffjekjlnaaDoorLit
import Derived.Test.YtmainffjekjlnaaDoorAt
namespace Go.Proofs.YtmainffjekjlnaaDoor
open Go.ChangeShapes Go.WideShapes Go.ChangeAt Go.RowKit
set_option linter.unusedVariables false
def DrewAJPN (w : World) (e : Ending) (w' : World) : Prop := ∃ a1 n1 c1 a2 n2 c2 a3 n3 c3 l lo hi aj nj cj J X Y N, e = .returned (.tuple #[.agg #[.slice a1 n1 c1, .slice a2 n2 c2, .slice a3 n3 c3], .slice aj nj cj, .agg #[.int .i64 X, .int .i64 Y], .int .i64 N]) ∧ ArmFacts w' w.heap.size a1 n1 c1 a2 n2 c2 a3 n3 c3 l lo hi ∧ JFacts w' w.heap.size aj nj J ∧ Below w.heap.size w w'
/-- the state of the draw behind the reader's last step: the results' blocks, the arm's box K, the arm and the angles -/
structure FlEnd (w W : World) (K B B' : Nat) (z1 z2 z3 : Value) (u v : Int) (a1 : Option Addr) (n1 c1 : Nat) (a2 : Option Addr) (n2 c2 : Nat) (a3 : Option Addr) (n3 c3 : Nat) (l lo hi : List Int) (aj : Option Addr) (J : List Int) : Prop where
  kr : Cell3 W w.heap.size z1 z2 z3
  hs : Slot W (w.heap.size + 1) u v
  kb : Cell3 W K (.slice a1 n1 c1) (.slice a2 n2 c2) (.slice a3 n3 c3)
  hf : ArmFacts W B a1 n1 c1 a2 n2 c2 a3 n3 c3 l lo hi
  hj : Span W B' aj J
  q : Below w.heap.size w W
  h : w.heap.size + 1 < K ∧ w.heap.size + 1 < B ∧ w.heap.size + 1 < B'
theorem FlEnd.kept {may : Nat → Prop} {w W W' : World} {K B B' : Nat} {z1 z2 z3 : Value} {u v : Int} {a1 a2 a3 aj : Option Addr} {n1 c1 n2 c2 n3 c3 : Nat} {l lo hi J : List Int} (h : FlEnd w W K B B' z1 z2 z3 u v a1 n1 c1 a2 n2 c2 a3 n3 c3 l lo hi aj J) (k : Kept may W W') (hm : ∀ i, may i → w.heap.size + 1 < i ∧ i ≠ K ∧ i < B ∧ i < B') : FlEnd w W' K B B' z1 z2 z3 u v a1 n1 c1 a2 n2 c2 a3 n3 c3 l lo hi aj J := by
  have hh := h.h
  exact ⟨h.kr.of_block (k.block _ h.kr.lt (fun e => by have := hm _ e; omega)), slot_kept h.hs k (fun e => by have := hm _ e; omega), h.kb.of_block (k.block _ h.kb.lt (fun e => by have := hm _ e; omega)), h.hf.keptBy k (fun i hi e => by have := hm _ e; omega), h.hj.keptBy k (fun i hi e => by have := hm _ e; omega), h.q.trans (k.below h.q.size (fun i hi e => by have := hm _ e; omega)), hh⟩
theorem FlEnd.beside {w W W' : World} {R K B B' : Nat} {z1 z2 z3 : Value} {u v : Int} {a1 a2 a3 aj : Option Addr} {n1 c1 n2 c2 n3 c3 : Nat} {l lo hi J : List Int} (h : FlEnd w W K B B' z1 z2 z3 u v a1 n1 c1 a2 n2 c2 a3 n3 c3 l lo hi aj J) (b : Beside R W W') (hR : w.heap.size + 1 < R ∧ R ≠ K ∧ R < B ∧ R < B') : FlEnd w W' K B B' z1 z2 z3 u v a1 n1 c1 a2 n2 c2 a3 n3 c3 l lo hi aj J := h.kept (Kept.of_beside b) (fun i hi => by subst hi; exact hR)
theorem FlEnd.alloc {w W : World} {K B B' : Nat} {z1 z2 z3 : Value} {u v : Int} {a1 a2 a3 aj : Option Addr} {n1 c1 n2 c2 n3 c3 : Nat} {l lo hi J : List Int} (h : FlEnd w W K B B' z1 z2 z3 u v a1 n1 c1 a2 n2 c2 a3 n3 c3 l lo hi aj J) (o : Obj) : FlEnd w (W.alloc o) K B B' z1 z2 z3 u v a1 n1 c1 a2 n2 c2 a3 n3 c3 l lo hi aj J := h.kept (may := fun _ => False) (Kept.of_below (bel_new W o)) (fun i hi => hi.elim)
theorem FlEnd.put1 {w W : World} {K B B' : Nat} {z1 z2 z3 : Value} {u v : Int} {a1 a2 a3 aj : Option Addr} {n1 c1 n2 c2 n3 c3 : Nat} {l lo hi J : List Int} (h : FlEnd w W K B B' z1 z2 z3 u v a1 n1 c1 a2 n2 c2 a3 n3 c3 l lo hi aj J) : FlEnd w (((W.setCell ⟨w.heap.size, 0, none⟩ (.slice a1 n1 c1)).setCell ⟨w.heap.size, 1, none⟩ (.slice a2 n2 c2)).setCell ⟨w.heap.size, 2, none⟩ (.slice a3 n3 c3)) K B B' (.slice a1 n1 c1) (.slice a2 n2 c2) (.slice a3 n3 c3) u v a1 n1 c1 a2 n2 c2 a3 n3 c3 l lo hi aj J := by
  have hh := h.h
  have k := grown3 W w.heap.size (.slice a1 n1 c1) (.slice a2 n2 c2) (.slice a3 n3 c3)
  exact ⟨((h.kr.put0 (.slice a1 n1 c1)).put1 (.slice a2 n2 c2)).put2 (.slice a3 n3 c3), slot_kept h.hs k (fun e => by omega), h.kb.of_block (k.block _ h.kb.lt (fun e => by omega)), h.hf.keptBy k (fun i hi e => by omega), h.hj.keptBy k (fun i hi e => by omega), bel_set (bel_set (bel_set h.q (Nat.le_refl _) _) (Nat.le_refl _) _) (Nat.le_refl _) _, hh⟩
theorem FlEnd.put2 {w W : World} {K B B' : Nat} {z1 z2 z3 : Value} {u v : Int} {a1 a2 a3 aj : Option Addr} {n1 c1 n2 c2 n3 c3 : Nat} {l lo hi J : List Int} (h : FlEnd w W K B B' z1 z2 z3 u v a1 n1 c1 a2 n2 c2 a3 n3 c3 l lo hi aj J) (x y : Int) : FlEnd w ((W.setCell ⟨w.heap.size + 1, 0, none⟩ (.int .i64 x)).setCell ⟨w.heap.size + 1, 1, none⟩ (.int .i64 y)) K B B' z1 z2 z3 x y a1 n1 c1 a2 n2 c2 a3 n3 c3 l lo hi aj J := by
  have hh := h.h
  have k : Kept (fun i => i = w.heap.size + 1) W ((W.setCell ⟨w.heap.size + 1, 0, none⟩ (.int .i64 x)).setCell ⟨w.heap.size + 1, 1, none⟩ (.int .i64 y)) := Kept.of_grown (grown_set2 W (w.heap.size + 1) (.int .i64 x) (.int .i64 y)) (fun i hi => by injection hi with hi; exact hi.symm)
  exact ⟨h.kr.of_block (k.block _ h.kr.lt (fun e => by omega)), h.hs.put x y, h.kb.of_block (k.block _ h.kb.lt (fun e => by omega)), h.hf.keptBy k (fun i hi e => by omega), h.hj.keptBy k (fun i hi e => by omega), bel_set (bel_set h.q (by omega) _) (by omega) _, hh⟩
/-- a literal's cells, and its block is there -/
def LitIn (w : World) (J : Nat) (l : List Int) : Prop := LitAt w J l ∧ J < w.heap.size
theorem LitIn.kept {may : Nat → Prop} {w w' : World} {J : Nat} {l : List Int} (h : LitIn w J l) (k : Kept may w w') (hm : ¬ may J) : LitIn w' J l := ⟨h.1.of_block (k.block _ h.2 hm), Nat.lt_of_lt_of_le h.2 k.size⟩
theorem LitIn.beside {w w' : World} {R J : Nat} {l : List Int} (h : LitIn w J l) (b : Beside R w w') (hR : J ≠ R) : LitIn w' J l := h.kept (Kept.of_beside b) hR
theorem FlEnd.store1 {w W : World} {K B B' : Nat} {z1 z2 z3 : Value} {u v : Int} {a1 a2 a3 aj : Option Addr} {n1 c1 n2 c2 n3 c3 : Nat} {l lo hi J : List Int} (h : FlEnd w W K B B' z1 z2 z3 u v a1 n1 c1 a2 n2 c2 a3 n3 c3 l lo hi aj J) : ∃ W', W' = (((W.setCell ⟨w.heap.size, 0, none⟩ (.slice a1 n1 c1)).setCell ⟨w.heap.size, 1, none⟩ (.slice a2 n2 c2)).setCell ⟨w.heap.size, 2, none⟩ (.slice a3 n3 c3)) ∧ FlEnd w W' K B B' (.slice a1 n1 c1) (.slice a2 n2 c2) (.slice a3 n3 c3) u v a1 n1 c1 a2 n2 c2 a3 n3 c3 l lo hi aj J ∧ (∀ J' l', J' ≠ w.heap.size → LitIn W J' l' → LitIn W' J' l') :=
  ⟨_, rfl, h.put1, fun J' l' hJ hl => hl.kept (grown3 W w.heap.size (.slice a1 n1 c1) (.slice a2 n2 c2) (.slice a3 n3 c3)) hJ⟩
theorem FlEnd.store2 {w W : World} {K B B' : Nat} {z1 z2 z3 : Value} {u v : Int} {a1 a2 a3 aj : Option Addr} {n1 c1 n2 c2 n3 c3 : Nat} {l lo hi J : List Int} (h : FlEnd w W K B B' z1 z2 z3 u v a1 n1 c1 a2 n2 c2 a3 n3 c3 l lo hi aj J) (x y : Int) : ∃ W', W' = ((W.setCell ⟨w.heap.size + 1, 0, none⟩ (.int .i64 x)).setCell ⟨w.heap.size + 1, 1, none⟩ (.int .i64 y)) ∧ FlEnd w W' K B B' z1 z2 z3 x y a1 n1 c1 a2 n2 c2 a3 n3 c3 l lo hi aj J ∧ (∀ J' l', J' ≠ w.heap.size + 1 → LitIn W J' l' → LitIn W' J' l') :=
  ⟨_, rfl, h.put2 x y, fun J' l' hJ hl => hl.kept (may := fun i => i = w.heap.size + 1) (Kept.of_grown (grown_set2 W (w.heap.size + 1) (.int .i64 x) (.int .i64 y)) (fun i hi => by injection hi with hi; exact hi.symm)) hJ⟩
theorem FlEnd.lits {w W : World} {K B B' : Nat} {z1 z2 z3 : Value} {u v : Int} {a1 a2 a3 aj : Option Addr} {n1 c1 n2 c2 n3 c3 : Nat} {l lo hi J : List Int} (h : FlEnd w W K B B' z1 z2 z3 u v a1 n1 c1 a2 n2 c2 a3 n3 c3 l lo hi aj J) (l9 : List Int) (t : TypeId) (o : Obj) (ho : o = .cells (l9.map (Value.int .i64)).toArray t) : ∃ W' J9, W' = W.alloc o ∧ J9 = W.heap.size ∧ FlEnd w W' K B B' z1 z2 z3 u v a1 n1 c1 a2 n2 c2 a3 n3 c3 l lo hi aj J ∧ LitIn W' J9 l9 ∧ K < J9 ∧ (∀ J' l', LitIn W J' l' → LitIn W' J' l') ∧ (∀ R m, Rd W R m → Rd W' R m) := by
  subst ho
  exact ⟨_, _, rfl, rfl, h.alloc _, ⟨LitAt.new W l9 t, by simp⟩, h.kb.lt, fun J' l' hl => hl.kept (may := fun _ => False) (Kept.of_below (bel_new W _)) id, fun R m r => r.alloc _⟩
theorem follow_idx : ∀ t : Nat, t < 6 → (([0, 0, 1, 1, 2, 3] : List Int).getD t 0) = ((([0, 0, 1, 1, 2, 3] : List Int).getD t 0).toNat : Int) ∧ (([0, 0, 1, 1, 2, 3] : List Int).getD t 0).toNat < 4 := by decide
set_option maxRecDepth 20000 in
set_option maxHeartbeats 32000000 in
theorem draw_FollowPoint (a : Option Addr) (len cap : Nat) (zs : List Int) (w : World) (h : IsRow .u8 w a len cap zs) :
    Calls Tryd.prog 30 #[.slice a len cap] w (DrewAJPN w) := by
  have kr := (Cell3.new w (.slice none 0 0) (.slice none 0 0) (.slice none 0 0) 25).alloc (.cells #[.int .i64 0, .int .i64 0] 27)
  have hs := Slot.new (w.alloc (.cells #[.slice none 0 0, .slice none 0 0, .slice none 0 0] 25)) 0 0 27
  rw [World.size_alloc] at hs
  have bb := bel_after (bel_new w (.cells #[.slice none 0 0, .slice none 0 0, .slice none 0 0] 25)) (bel_new (w.alloc (.cells #[.slice none 0 0, .slice none 0 0, .slice none 0 0] 25)) (.cells #[.int .i64 0, .int .i64 0] 27))
  have hrow := Lib.hid (h.below bb)
  replace bb := Lib.hid bb
  go_enter Tryd.func30, Tryd.ntmps30
  go_wp2_with fail
  generalize (w.alloc (.cells #[.slice none 0 0, .slice none 0 0, .slice none 0 0] 25)).alloc (.cells #[.int .i64 0, .int .i64 0] 27) = w0 at *
  have hsz : w.heap.size + 1 < w0.heap.size := hs.2.2.2.2
  refine (open_any a len cap zs _ hrow.out).mono ?_
  rintro e w1 ⟨R, rfl, hR, rd, q⟩
  replace kr := kr.after q
  replace hs := hs.after q
  replace bb := Lib.hid (bel_after bb.out q)
  have hS : w.heap.size ≠ R := by omega
  have hS1 : w.heap.size + 1 ≠ R := by omega
  have hRw : w.heap.size ≤ R := by omega
  clear q hrow
  go_wp2_with fail
  refine (pick_any R _ _ _ rd (by omega) (by omega) (by omega)).mono ?_
  rintro e w2 ⟨mn, p1, p2, rfl, r2, b2⟩
  replace kr := kr.beside b2 hS
  replace hs := hs.beside b2 hS1
  replace bb := Lib.hid (bel_beside bb.out b2 hRw)
  clear rd b2
  go_wp2_with fail
  refine (l20_arm R _ (1 + mn) _ _ r2 (by omega) (by omega) (by omega) (by omega) (by omega)).mono ?_
  rintro e w3 ⟨a1, n1, c1, a2, n2, c2, a3, n3, c3, l, lo, hi, rfl, hf, r3, b3⟩
  have hl2 := kr.lt
  have hl2s := hs.2.2.2.2
  replace kr := kr.beside b3 hS
  replace hs := hs.beside b3 hS1
  replace bb := Lib.hid (bel_beside bb.out b3 hRw)
  replace hf := Lib.hid hf
  have hl3 := b3.size
  have hR2 := r2.lt
  clear r2 b3
  go_upto_region 3 with fail
  have kb := Cell3.new w3 (.slice a1 n1 c1) (.slice a2 n2 c2) (.slice a3 n3 c3) 25
  have hsB : w3.heap.size < (w3.alloc (.cells #[.slice a1 n1 c1, .slice a2 n2 c2, .slice a3 n3 c3] 25)).heap.size := by simp
  have hK4 := Lib.hid (World.size_alloc w3 (.cells #[.slice a1 n1 c1, .slice a2 n2 c2, .slice a3 n3 c3] 25))
  replace kr := kr.after (bel_new w3 (.cells #[.slice a1 n1 c1, .slice a2 n2 c2, .slice a3 n3 c3] 25))
  replace hs := hs.after (bel_new w3 (.cells #[.slice a1 n1 c1, .slice a2 n2 c2, .slice a3 n3 c3] 25))
  replace bb := Lib.hid (bel_after bb.out (bel_new w3 (.cells #[.slice a1 n1 c1, .slice a2 n2 c2, .slice a3 n3 c3] 25)))
  replace hf := Lib.hid (hf.out.after (bel_new w3 (.cells #[.slice a1 n1 c1, .slice a2 n2 c2, .slice a3 n3 c3] 25)))
  replace r3 := r3.alloc (.cells #[.slice a1 n1 c1, .slice a2 n2 c2, .slice a3 n3 c3] 25)
  generalize hK : w3.heap.size = K at kb ⊢ hl3 hsB hK4
  generalize w3.alloc (.cells #[.slice a1 n1 c1, .slice a2 n2 c2, .slice a3 n3 c3] 25) = w4 at *
  have hKR : K ≠ R := by omega
  have hKS : K ≠ w.heap.size := by omega
  have hSK : w.heap.size ≠ K := by omega
  have hKS1 : K ≠ w.heap.size + 1 := by omega
  have hSK1 : w.heap.size + 1 ≠ K := by omega
  clear hK
  obtain ⟨y0, y1, y2, y3, y4, y5⟩ := id kb
  go_wp2_with fail
  clear y0 y1 y2 y3 y4 y5
  refine (l20_joints R _ w2.heap.size a1 a2 a3 n1 c1 n2 c2 n3 c3 l lo hi _ _ r3 (by omega) (by omega) (by omega) (by omega) hf.out.draw).mono ?_
  rintro e w5 ⟨aj, nj, cj, J, rfl, ⟨hj1, hj2⟩, hj3, hj4, rd, b⟩
  have hRj := r3.lt
  have hSj := hs.2.2.2.2
  replace kr := kr.beside b hS
  replace hs := hs.beside b hS1
  replace bb := Lib.hid (bel_beside bb.out b hRw)
  replace hf := Lib.hid (hf.out.beside b (by omega))
  replace kb := kb.beside b hKR
  replace hj1 := Lib.hid hj1
  replace hj3 := Lib.hid hj3
  replace hj4 := Lib.hid hj4
  clear b r3
  go_upto_region 4 with fail
  have hh : w.heap.size + 1 < R ∧ R < K := by omega
  have fl : FlEnd w w5 K w2.heap.size _ (.slice none 0 0) (.slice none 0 0) (.slice none 0 0) 0 0 a1 n1 c1 a2 n2 c2 a3 n3 c3 l lo hi aj J := ⟨kr, hs, kb, hf.out, hj4.out, bb.out, by omega, by omega, by omega⟩
  replace fl : FlEnd w w5.drew K _ _ _ _ _ _ _ a1 n1 c1 a2 n2 c2 a3 n3 c3 l lo hi aj J := fl.kept (may := fun _ => False) (Kept.of_below (bel_drew w5)) (fun i hi => hi.elim)
  have hB : R < w2.heap.size ∧ R < w4.heap.size := by omega
  replace rd : Rd w5.drew R _ := rd.drewN 1
  clear kr hs kb hf hj4 bb h hsz hR hS hS1 hRw p1 p2 hl2 hl2s hR2 hl3 hsB hK4 hKR hKS hSK hKS1 hSK1 hRj hSj
  have s := (And.intro fl.kb.c0 (And.intro fl.kb.c1 fl.kb.c2))
  refine wp_region_held_drew (S := (fun w' => w'.cell? ⟨K, 0, none⟩ = some (.slice a1 n1 c1) ∧ w'.cell? ⟨K, 1, none⟩ = some (.slice a2 n2 c2) ∧ w'.cell? ⟨K, 2, none⟩ = some (.slice a3 n3 c3))) (by kernel_rfl) s (fun hHeld => ?_)
  generalize w5.drew = u0 at *
  refine wpAnyH_take (i := 0) (v := ?vr1y1x0) nth0 (by kernel_rfl) (by kernel_rfl) (by kernel_rfl) (fun _ _ _ h => h) (Or.inl ⟨by rfl, ?hyr1y1x0⟩) hHeld ?_
  case hyr1y1x0 => (intro wH hSw; (try dsimp only at hSw); go_simp; (try with_reducible rfl))
  simp only [Act.put, List.setIfInBounds_toArray, List.set_cons_zero, List.set_cons_succ]
  refine wpAnyH_take (i := 1) (v := ?vr1y2x1) nth1 (by kernel_rfl) (by kernel_rfl) (by kernel_rfl) (fun _ _ _ h => h) (Or.inl ⟨by rfl, ?hyr1y2x1⟩) hHeld ?_
  case hyr1y2x1 => (intro wH hSw; (try dsimp only at hSw); go_simp; (try with_reducible rfl))
  simp only [Act.put, List.setIfInBounds_toArray, List.set_cons_zero, List.set_cons_succ]
  refine wpAnyH_take (i := 2) (v := ?vr1y3x2) nth2 (by kernel_rfl) (by kernel_rfl) (by kernel_rfl) (fun _ _ _ h => h) (Or.inl ⟨by rfl, ?hyr1y3x2⟩) hHeld ?_
  case hyr1y3x2 => (intro wH hSw; (try dsimp only at hSw); go_simp; (try with_reducible rfl))
  simp only [Act.put, List.setIfInBounds_toArray, List.set_cons_zero, List.set_cons_succ]
  refine wpAnyH_take (i := 3) (v := ?vr1y4x3) nth3 (by kernel_rfl) (by kernel_rfl) (by kernel_rfl) (fun _ _ _ h => h) (Or.inl ⟨by rfl, ?hyr1y4x3⟩) hHeld ?_
  case hyr1y4x3 => (intro wH hSw; (try dsimp only at hSw); go_simp; (try with_reducible rfl))
  simp only [Act.put, List.setIfInBounds_toArray, List.set_cons_zero, List.set_cons_succ]
  refine wpAnyH_take (i := 5) (v := ?vr1y5x5) nth5 (by kernel_rfl) (by kernel_rfl) (by kernel_rfl) (fun _ _ _ h => h) (Or.inl ⟨by rfl, ?hyr1y5x5⟩) hHeld ?_
  case hyr1y5x5 => (intro wH hSw; (try dsimp only at hSw); go_simp; (try with_reducible rfl))
  simp only [Act.put, List.setIfInBounds_toArray, List.set_cons_zero, List.set_cons_succ]
  refine wpAnyH_take (i := 7) (v := ?vr1y6x7) nth7 (by kernel_rfl) (by kernel_rfl) (by kernel_rfl) (fun _ _ _ h => h) (Or.inl ⟨by rfl, ?hyr1y6x7⟩) hHeld ?_
  case hyr1y6x7 => (intro wH hSw; (try dsimp only at hSw); go_simp; (try with_reducible rfl))
  simp only [Act.put, List.setIfInBounds_toArray, List.set_cons_zero, List.set_cons_succ]
  refine wpAnyH_take (i := 11) (v := ?vr1y7x11) nth11 (by kernel_rfl) (by kernel_rfl) (by kernel_rfl) (fun _ _ _ h => h) (Or.inl ⟨by rfl, ?hyr1y7x11⟩) hHeld ?_
  case hyr1y7x11 => (intro wH hSw; (try dsimp only at hSw); go_simp; (try with_reducible rfl))
  simp only [Act.put, List.setIfInBounds_toArray, List.set_cons_zero, List.set_cons_succ]
  refine wpAnyH_ready (rs := [4, 10]) (by kernel_rfl) (by simp) ?_
  refine AllReadyH.cons nth4 (fun KK hKK => ?_) ?_
  · clear hHeld s
    go_simp
    go_at_call 35
    refine (l20_target R _ _ a1 a2 a3 n1 c1 n2 c2 n3 c3 l lo hi _ rd (by omega) hB.1 fl.hf.draw).mono ?_
    rintro e u1 ⟨X, Y, rfl, r, b⟩
    replace fl := fl.beside b ⟨hh.1, by omega, hB.1, hB.2⟩
    replace rd := r
    clear b r
    have s := (And.intro fl.kb.c0 (And.intro fl.kb.c1 fl.kb.c2))
    refine hKK.out _ _ s (fun hHeld => ?_)
    clear hKK KK hHeld
    try simp only [Act.put, List.setIfInBounds_toArray, List.set_cons_zero, List.set_cons_succ]
    have hHeld := s
    refine wpAnyH_ready (rs := [6, 10]) (by kernel_rfl) (by simp) ?_
    refine AllReadyH.cons nth6 (fun KK hKK => ?_) ?_
    · clear hHeld s
      go_simp
      go_at_call 58
      refine (pick_any R _ _ _ rd (by omega) (by omega) (by omega)).mono ?_
      rintro e u2 ⟨v1_, v1p, v1q, rfl, r, b⟩
      replace fl := fl.beside b ⟨hh.1, by omega, hB.1, hB.2⟩
      replace rd := r
      clear b r
      clear v1p v1q
      have s := (And.intro fl.kb.c0 (And.intro fl.kb.c1 fl.kb.c2))
      refine hKK.out _ _ s (fun hHeld => ?_)
      clear hKK KK hHeld
      try simp only [Act.put, List.setIfInBounds_toArray, List.set_cons_zero, List.set_cons_succ]
      have hHeld := s
      refine wpAnyH_ready (rs := [8, 10]) (by kernel_rfl) (by simp) ?_
      refine AllReadyH.cons nth8 (fun KK hKK => ?_) ?_
      · clear hHeld s
        go_simp
        go_at_call 58
        refine (pick_any R _ _ _ rd (by omega) (by omega) (by omega)).mono ?_
        rintro e u3 ⟨v2_, v2p, v2q, rfl, r, b⟩
        replace fl := fl.beside b ⟨hh.1, by omega, hB.1, hB.2⟩
        replace rd := r
        clear b r
        clear v2p v2q
        have s := (And.intro fl.kb.c0 (And.intro fl.kb.c1 fl.kb.c2))
        refine hKK.out _ _ s (fun hHeld => ?_)
        clear hKK KK hHeld
        try simp only [Act.put, List.setIfInBounds_toArray, List.set_cons_zero, List.set_cons_succ]
        have hHeld := s
        refine wpAnyH_ready (rs := [9, 10, 12]) (by kernel_rfl) (by simp) ?_
        refine AllReadyH.cons nth9 (fun KK hKK => ?_) ?_
        · clear hHeld s
          go_simp
          obtain ⟨u4, JA, hu, hJ, gl, litA, gtA, lk, rk⟩ := fl.lits [v1_, v2_, -1, 501] 3 _ rfl
          simp only [List.map_cons, List.map_nil] at hu
          rw [← hu, ← hJ]
          replace fl := gl
          replace rd := rk _ _ rd
          clear hu hJ gl lk rk
          have s := (And.intro fl.kb.c0 (And.intro fl.kb.c1 fl.kb.c2))
          refine hKK.out _ _ s (fun hHeld => ?_)
          clear hKK KK hHeld
          try simp only [Act.put, List.setIfInBounds_toArray, List.set_cons_zero, List.set_cons_succ]
          clear s
          have s := (And.intro (And.intro fl.kb.c0 (And.intro fl.kb.c1 fl.kb.c2)) litA.1)
          refine wpAnyH_strong (S' := (fun w' => (w'.cell? ⟨K, 0, none⟩ = some (.slice a1 n1 c1) ∧ w'.cell? ⟨K, 1, none⟩ = some (.slice a2 n2 c2) ∧ w'.cell? ⟨K, 2, none⟩ = some (.slice a3 n3 c3)) ∧ (LitAt w' JA [v1_, v2_, -1, 501]))) (fun _ h => h.1) ?_
          have hHeld := s
          refine wpAnyH_ready (rs := [10, 12]) (by kernel_rfl) (by simp) ?_
          refine AllReadyH.cons nth10 (fun KK hKK => ?_) ?_
          · clear hHeld s
            go_simp
            obtain ⟨u5, JB, hu, hJ, gl, litB, gtB, lk, rk⟩ := fl.lits [0, 0, 1, 1, 2, 3] 3 _ rfl
            simp only [List.map_cons, List.map_nil] at hu
            rw [← hu, ← hJ]
            replace fl := gl
            replace litA := lk _ _ litA
            replace rd := rk _ _ rd
            clear hu hJ gl lk rk
            have s := (And.intro (And.intro fl.kb.c0 (And.intro fl.kb.c1 fl.kb.c2)) litA.1)
            refine hKK.out _ _ s (fun hHeld => ?_)
            clear hKK KK hHeld
            try simp only [Act.put, List.setIfInBounds_toArray, List.set_cons_zero, List.set_cons_succ]
            clear s
            have s := (And.intro (And.intro (And.intro fl.kb.c0 (And.intro fl.kb.c1 fl.kb.c2)) litA.1) litB.1)
            refine wpAnyH_strong (S' := (fun w' => ((w'.cell? ⟨K, 0, none⟩ = some (.slice a1 n1 c1) ∧ w'.cell? ⟨K, 1, none⟩ = some (.slice a2 n2 c2) ∧ w'.cell? ⟨K, 2, none⟩ = some (.slice a3 n3 c3)) ∧ (LitAt w' JA [v1_, v2_, -1, 501])) ∧ (LitAt w' JB [0, 0, 1, 1, 2, 3]))) (fun _ h => h.1) ?_
            have hHeld := s
            refine wpAnyH_ready (rs := [12]) (by kernel_rfl) (by simp) ?_
            refine AllReadyH.cons nth12 (fun KK hKK => ?_) ?_
            · clear hHeld s
              go_simp
              go_at_call 58
              refine (pick_any R _ _ _ rd (by omega) (by omega) (by omega)).mono ?_
              rintro e u6 ⟨t_, tp, tq, rfl, r, b⟩
              replace litA := litA.beside b (by omega)
              replace litB := litB.beside b (by omega)
              replace fl := fl.beside b ⟨hh.1, by omega, hB.1, hB.2⟩
              clear b r rd
              obtain ⟨t, rfl⟩ : ∃ t : Nat, t_ = t := ⟨t_.toNat, by omega⟩
              have tl : t < 6 := by omega
              obtain ⟨ix1, ix2⟩ := follow_idx t tl
              generalize hix : (([0, 0, 1, 1, 2, 3] : List Int).getD t 0).toNat = ix at ix1 ix2
              clear hix
              have ix3 : (ix : Int) < 4 := by omega
              obtain ⟨n, hn⟩ : ∃ n, ([v1_, v2_, -1, 501] : List Int).getD ix 0 = n := ⟨_, rfl⟩
              have s := (And.intro (And.intro (And.intro fl.kb.c0 (And.intro fl.kb.c1 fl.kb.c2)) litA.1) litB.1)
              refine hKK.out _ _ s (fun hHeld => ?_)
              clear hKK KK hHeld
              try simp only [Act.put, List.setIfInBounds_toArray, List.set_cons_zero, List.set_cons_succ]
              have hHeld := s
              refine wpAnyH_take (i := 13) (v := ?vr1y8x13) nth13 (by kernel_rfl) (by kernel_rfl) (by kernel_rfl) (fun _ _ _ h => h) (Or.inl ⟨by rfl, ?hyr1y8x13⟩) hHeld ?_
              case hyr1y8x13 => (intro wH hSw; (try dsimp only at hSw); go_simp; (try with_reducible rfl))
              simp only [Act.put, List.setIfInBounds_toArray, List.set_cons_zero, List.set_cons_succ]
              refine wpAnyH_take (i := 14) (v := .int .i64 (ix : Int)) nth14 (by kernel_rfl) (by kernel_rfl) (by kernel_rfl) (fun _ _ _ h => h) (Or.inl ⟨by rfl, ?hyr1y9x14⟩) hHeld ?_
              case hyr1y9x14 => (intro wH hSw; have hc := hSw.2 t (by simp; omega); rw [ix1] at hc; clear hSw; go_simp)
              simp only [Act.put, List.setIfInBounds_toArray, List.set_cons_zero, List.set_cons_succ]
              refine wpAnyH_take (i := 15) (v := ?vr1y10x15) nth15 (by kernel_rfl) (by kernel_rfl) (by kernel_rfl) (fun _ _ _ h => h) (Or.inl ⟨by rfl, ?hyr1y10x15⟩) hHeld ?_
              case hyr1y10x15 => (intro wH hSw; (try dsimp only at hSw); go_simp; (try with_reducible rfl))
              simp only [Act.put, List.setIfInBounds_toArray, List.set_cons_zero, List.set_cons_succ]
              refine wpAnyH_take (i := 16) (v := .int .i64 n) nth16 (by kernel_rfl) (by kernel_rfl) (by kernel_rfl) (fun _ _ _ h => h) (Or.inl ⟨by rfl, ?hyr1y11x16⟩) hHeld ?_
              case hyr1y11x16 => (intro wH hSw; have hc := hSw.1.2 ix (by simp; omega); rw [hn] at hc; clear hSw; go_simp)
              simp only [Act.put, List.setIfInBounds_toArray, List.set_cons_zero, List.set_cons_succ]
              refine wpAnyH_ready (rs := [17]) (by kernel_rfl) (by simp) ?_
              refine AllReadyH.cons nth17 (fun KK hKK => ?_) ?_
              · clear hHeld s
                obtain ⟨a1_, a2_, a3_, a4_, a5_, a6_⟩ := fl.kr
                replace hn := Lib.hid hn
                replace ix1 := Lib.hid ix1
                go_simp
                replace hn := hn.out
                replace ix1 := ix1.out
                clear a1_ a2_ a3_ a4_ a5_ a6_
                obtain ⟨u7, hu, gl, lk⟩ := fl.store1
                rw [← hu]
                replace fl := gl
                replace litA := lk _ _ (by omega) litA
                replace litB := lk _ _ (by omega) litB
                clear hu gl lk
                have s := (And.intro (And.intro (And.intro fl.kb.c0 (And.intro fl.kb.c1 fl.kb.c2)) litA.1) litB.1)
                refine hKK.out _ _ s (fun hHeld => ?_)
                clear hKK KK hHeld
                try simp only [Act.put, List.setIfInBounds_toArray, List.set_cons_zero, List.set_cons_succ]
                have hHeld := s
                refine wpAnyH_take (i := 18) (v := ?vr1y12x18) nth18 (by kernel_rfl) (by kernel_rfl) (by kernel_rfl) (fun _ _ _ h => h) (Or.inl ⟨by rfl, ?hyr1y12x18⟩) hHeld ?_
                case hyr1y12x18 => (intro wH hSw; (try dsimp only at hSw); go_simp; (try with_reducible rfl))
                simp only [Act.put, List.setIfInBounds_toArray, List.set_cons_zero, List.set_cons_succ]
                refine wpAnyH_ready (rs := [19]) (by kernel_rfl) (by simp) ?_
                refine AllReadyH.cons nth19 (fun KK hKK => ?_) ?_
                · clear hHeld s
                  obtain ⟨a1_, a2_, a3_, a4_, a5_⟩ := fl.hs
                  replace hn := Lib.hid hn
                  replace ix1 := Lib.hid ix1
                  go_simp
                  replace hn := hn.out
                  replace ix1 := ix1.out
                  clear a1_ a2_ a3_ a4_ a5_
                  obtain ⟨u8, hu, gl, lk⟩ := fl.store2 X Y
                  rw [← hu]
                  replace fl := gl
                  replace litA := lk _ _ (by omega) litA
                  replace litB := lk _ _ (by omega) litB
                  clear hu gl lk
                  have s := (And.intro (And.intro (And.intro fl.kb.c0 (And.intro fl.kb.c1 fl.kb.c2)) litA.1) litB.1)
                  refine hKK.out _ _ s (fun hHeld => ?_)
                  clear hKK KK hHeld
                  try simp only [Act.put, List.setIfInBounds_toArray, List.set_cons_zero, List.set_cons_succ]
                  have hHeld := s
                  refine wpAnyH_take (i := 20) (v := ?vr1y13x20) nth20 (by kernel_rfl) (by kernel_rfl) (by kernel_rfl) (fun _ _ _ h => h) (Or.inl ⟨by rfl, ?hyr1y13x20⟩) hHeld ?_
                  case hyr1y13x20 => (intro wH hSw; (try dsimp only at hSw); go_simp; (try with_reducible rfl))
                  simp only [Act.put, List.setIfInBounds_toArray, List.set_cons_zero, List.set_cons_succ]
                  refine wpAnyH_done (by kernel_rfl) ?_ _
                  clear hHeld s
                  obtain ⟨a1_, a2_, a3_, a4_, a5_, a6_⟩ := fl.kr
                  obtain ⟨b1_, b2_, b3_, b4_, b5_⟩ := fl.hs
                  go_wp2_with fail
                  exact bodyPost_ret (v := .tuple #[.agg #[.slice a1 n1 c1, .slice a2 n2 c2, .slice a3 n3 c3], .slice aj nj cj, .agg #[.int .i64 X, .int .i64 Y], .int .i64 n]) (by simp [results, Tryd.results30, go_sem, a1_, a2_, a3_, b1_, b2_]) rfl ⟨a1, n1, c1, a2, n2, c2, a3, n3, c3, l, lo, hi, aj, nj, cj, J, X, Y, n, rfl, fl.hf.base (by omega), ⟨hj1.out, by omega, hj3.out, fl.hj.base (by omega)⟩, fl.q⟩
                exact AllReadyH.nil
              exact AllReadyH.nil
            exact AllReadyH.nil
          refine AllReadyH.cons nth12 (fun KK hKK => ?_) ?_
          · clear hHeld s
            go_simp
            go_at_call 58
            refine (pick_any R _ _ _ rd (by omega) (by omega) (by omega)).mono ?_
            rintro e u5 ⟨t_, tp, tq, rfl, r, b⟩
            replace litA := litA.beside b (by omega)
            replace fl := fl.beside b ⟨hh.1, by omega, hB.1, hB.2⟩
            clear b r rd
            obtain ⟨t, rfl⟩ : ∃ t : Nat, t_ = t := ⟨t_.toNat, by omega⟩
            have tl : t < 6 := by omega
            obtain ⟨ix1, ix2⟩ := follow_idx t tl
            generalize hix : (([0, 0, 1, 1, 2, 3] : List Int).getD t 0).toNat = ix at ix1 ix2
            clear hix
            have ix3 : (ix : Int) < 4 := by omega
            obtain ⟨n, hn⟩ : ∃ n, ([v1_, v2_, -1, 501] : List Int).getD ix 0 = n := ⟨_, rfl⟩
            have s := (And.intro (And.intro fl.kb.c0 (And.intro fl.kb.c1 fl.kb.c2)) litA.1)
            refine hKK.out _ _ s (fun hHeld => ?_)
            clear hKK KK hHeld
            try simp only [Act.put, List.setIfInBounds_toArray, List.set_cons_zero, List.set_cons_succ]
            have hHeld := s
            refine wpAnyH_ready (rs := [10, 17]) (by kernel_rfl) (by simp) ?_
            refine AllReadyH.cons nth10 (fun KK hKK => ?_) ?_
            · clear hHeld s
              go_simp
              obtain ⟨u6, JB, hu, hJ, gl, litB, gtB, lk, rk⟩ := fl.lits [0, 0, 1, 1, 2, 3] 3 _ rfl
              simp only [List.map_cons, List.map_nil] at hu
              rw [← hu, ← hJ]
              replace fl := gl
              replace litA := lk _ _ litA
              clear hu hJ gl lk rk
              have s := (And.intro (And.intro fl.kb.c0 (And.intro fl.kb.c1 fl.kb.c2)) litA.1)
              refine hKK.out _ _ s (fun hHeld => ?_)
              clear hKK KK hHeld
              try simp only [Act.put, List.setIfInBounds_toArray, List.set_cons_zero, List.set_cons_succ]
              clear s
              have s := (And.intro (And.intro (And.intro fl.kb.c0 (And.intro fl.kb.c1 fl.kb.c2)) litA.1) litB.1)
              refine wpAnyH_strong (S' := (fun w' => ((w'.cell? ⟨K, 0, none⟩ = some (.slice a1 n1 c1) ∧ w'.cell? ⟨K, 1, none⟩ = some (.slice a2 n2 c2) ∧ w'.cell? ⟨K, 2, none⟩ = some (.slice a3 n3 c3)) ∧ (LitAt w' JA [v1_, v2_, -1, 501])) ∧ (LitAt w' JB [0, 0, 1, 1, 2, 3]))) (fun _ h => h.1) ?_
              have hHeld := s
              refine wpAnyH_take (i := 13) (v := ?vr1y14x13) nth13 (by kernel_rfl) (by kernel_rfl) (by kernel_rfl) (fun _ _ _ h => h) (Or.inl ⟨by rfl, ?hyr1y14x13⟩) hHeld ?_
              case hyr1y14x13 => (intro wH hSw; (try dsimp only at hSw); go_simp; (try with_reducible rfl))
              simp only [Act.put, List.setIfInBounds_toArray, List.set_cons_zero, List.set_cons_succ]
              refine wpAnyH_take (i := 14) (v := .int .i64 (ix : Int)) nth14 (by kernel_rfl) (by kernel_rfl) (by kernel_rfl) (fun _ _ _ h => h) (Or.inl ⟨by rfl, ?hyr1y15x14⟩) hHeld ?_
              case hyr1y15x14 => (intro wH hSw; have hc := hSw.2 t (by simp; omega); rw [ix1] at hc; clear hSw; go_simp)
              simp only [Act.put, List.setIfInBounds_toArray, List.set_cons_zero, List.set_cons_succ]
              refine wpAnyH_take (i := 15) (v := ?vr1y16x15) nth15 (by kernel_rfl) (by kernel_rfl) (by kernel_rfl) (fun _ _ _ h => h) (Or.inl ⟨by rfl, ?hyr1y16x15⟩) hHeld ?_
              case hyr1y16x15 => (intro wH hSw; (try dsimp only at hSw); go_simp; (try with_reducible rfl))
              simp only [Act.put, List.setIfInBounds_toArray, List.set_cons_zero, List.set_cons_succ]
              refine wpAnyH_take (i := 16) (v := .int .i64 n) nth16 (by kernel_rfl) (by kernel_rfl) (by kernel_rfl) (fun _ _ _ h => h) (Or.inl ⟨by rfl, ?hyr1y17x16⟩) hHeld ?_
              case hyr1y17x16 => (intro wH hSw; have hc := hSw.1.2 ix (by simp; omega); rw [hn] at hc; clear hSw; go_simp)
              simp only [Act.put, List.setIfInBounds_toArray, List.set_cons_zero, List.set_cons_succ]
              refine wpAnyH_ready (rs := [17]) (by kernel_rfl) (by simp) ?_
              refine AllReadyH.cons nth17 (fun KK hKK => ?_) ?_
              · clear hHeld s
                obtain ⟨a1_, a2_, a3_, a4_, a5_, a6_⟩ := fl.kr
                replace hn := Lib.hid hn
                replace ix1 := Lib.hid ix1
                go_simp
                replace hn := hn.out
                replace ix1 := ix1.out
                clear a1_ a2_ a3_ a4_ a5_ a6_
                obtain ⟨u7, hu, gl, lk⟩ := fl.store1
                rw [← hu]
                replace fl := gl
                replace litA := lk _ _ (by omega) litA
                replace litB := lk _ _ (by omega) litB
                clear hu gl lk
                have s := (And.intro (And.intro (And.intro fl.kb.c0 (And.intro fl.kb.c1 fl.kb.c2)) litA.1) litB.1)
                refine hKK.out _ _ s (fun hHeld => ?_)
                clear hKK KK hHeld
                try simp only [Act.put, List.setIfInBounds_toArray, List.set_cons_zero, List.set_cons_succ]
                have hHeld := s
                refine wpAnyH_take (i := 18) (v := ?vr1y18x18) nth18 (by kernel_rfl) (by kernel_rfl) (by kernel_rfl) (fun _ _ _ h => h) (Or.inl ⟨by rfl, ?hyr1y18x18⟩) hHeld ?_
                case hyr1y18x18 => (intro wH hSw; (try dsimp only at hSw); go_simp; (try with_reducible rfl))
                simp only [Act.put, List.setIfInBounds_toArray, List.set_cons_zero, List.set_cons_succ]
                refine wpAnyH_ready (rs := [19]) (by kernel_rfl) (by simp) ?_
                refine AllReadyH.cons nth19 (fun KK hKK => ?_) ?_
                · clear hHeld s
                  obtain ⟨a1_, a2_, a3_, a4_, a5_⟩ := fl.hs
                  replace hn := Lib.hid hn
                  replace ix1 := Lib.hid ix1
                  go_simp
                  replace hn := hn.out
                  replace ix1 := ix1.out
                  clear a1_ a2_ a3_ a4_ a5_
                  obtain ⟨u8, hu, gl, lk⟩ := fl.store2 X Y
                  rw [← hu]
                  replace fl := gl
                  replace litA := lk _ _ (by omega) litA
                  replace litB := lk _ _ (by omega) litB
                  clear hu gl lk
                  have s := (And.intro (And.intro (And.intro fl.kb.c0 (And.intro fl.kb.c1 fl.kb.c2)) litA.1) litB.1)
                  refine hKK.out _ _ s (fun hHeld => ?_)
                  clear hKK KK hHeld
                  try simp only [Act.put, List.setIfInBounds_toArray, List.set_cons_zero, List.set_cons_succ]
                  have hHeld := s
                  refine wpAnyH_take (i := 20) (v := ?vr1y19x20) nth20 (by kernel_rfl) (by kernel_rfl) (by kernel_rfl) (fun _ _ _ h => h) (Or.inl ⟨by rfl, ?hyr1y19x20⟩) hHeld ?_
                  case hyr1y19x20 => (intro wH hSw; (try dsimp only at hSw); go_simp; (try with_reducible rfl))
                  simp only [Act.put, List.setIfInBounds_toArray, List.set_cons_zero, List.set_cons_succ]
                  refine wpAnyH_done (by kernel_rfl) ?_ _
                  clear hHeld s
                  obtain ⟨a1_, a2_, a3_, a4_, a5_, a6_⟩ := fl.kr
                  obtain ⟨b1_, b2_, b3_, b4_, b5_⟩ := fl.hs
                  go_wp2_with fail
                  exact bodyPost_ret (v := .tuple #[.agg #[.slice a1 n1 c1, .slice a2 n2 c2, .slice a3 n3 c3], .slice aj nj cj, .agg #[.int .i64 X, .int .i64 Y], .int .i64 n]) (by simp [results, Tryd.results30, go_sem, a1_, a2_, a3_, b1_, b2_]) rfl ⟨a1, n1, c1, a2, n2, c2, a3, n3, c3, l, lo, hi, aj, nj, cj, J, X, Y, n, rfl, fl.hf.base (by omega), ⟨hj1.out, by omega, hj3.out, fl.hj.base (by omega)⟩, fl.q⟩
                exact AllReadyH.nil
              exact AllReadyH.nil
            refine AllReadyH.cons nth17 (fun KK hKK => ?_) ?_
            · clear hHeld s
              obtain ⟨a1_, a2_, a3_, a4_, a5_, a6_⟩ := fl.kr
              replace hn := Lib.hid hn
              replace ix1 := Lib.hid ix1
              go_simp
              replace hn := hn.out
              replace ix1 := ix1.out
              clear a1_ a2_ a3_ a4_ a5_ a6_
              obtain ⟨u6, hu, gl, lk⟩ := fl.store1
              rw [← hu]
              replace fl := gl
              replace litA := lk _ _ (by omega) litA
              clear hu gl lk
              have s := (And.intro (And.intro fl.kb.c0 (And.intro fl.kb.c1 fl.kb.c2)) litA.1)
              refine hKK.out _ _ s (fun hHeld => ?_)
              clear hKK KK hHeld
              try simp only [Act.put, List.setIfInBounds_toArray, List.set_cons_zero, List.set_cons_succ]
              have hHeld := s
              refine wpAnyH_take (i := 18) (v := ?vr1y20x18) nth18 (by kernel_rfl) (by kernel_rfl) (by kernel_rfl) (fun _ _ _ h => h) (Or.inl ⟨by rfl, ?hyr1y20x18⟩) hHeld ?_
              case hyr1y20x18 => (intro wH hSw; (try dsimp only at hSw); go_simp; (try with_reducible rfl))
              simp only [Act.put, List.setIfInBounds_toArray, List.set_cons_zero, List.set_cons_succ]
              refine wpAnyH_ready (rs := [10, 19]) (by kernel_rfl) (by simp) ?_
              refine AllReadyH.cons nth10 (fun KK hKK => ?_) ?_
              · clear hHeld s
                go_simp
                obtain ⟨u7, JB, hu, hJ, gl, litB, gtB, lk, rk⟩ := fl.lits [0, 0, 1, 1, 2, 3] 3 _ rfl
                simp only [List.map_cons, List.map_nil] at hu
                rw [← hu, ← hJ]
                replace fl := gl
                replace litA := lk _ _ litA
                clear hu hJ gl lk rk
                have s := (And.intro (And.intro fl.kb.c0 (And.intro fl.kb.c1 fl.kb.c2)) litA.1)
                refine hKK.out _ _ s (fun hHeld => ?_)
                clear hKK KK hHeld
                try simp only [Act.put, List.setIfInBounds_toArray, List.set_cons_zero, List.set_cons_succ]
                clear s
                have s := (And.intro (And.intro (And.intro fl.kb.c0 (And.intro fl.kb.c1 fl.kb.c2)) litA.1) litB.1)
                refine wpAnyH_strong (S' := (fun w' => ((w'.cell? ⟨K, 0, none⟩ = some (.slice a1 n1 c1) ∧ w'.cell? ⟨K, 1, none⟩ = some (.slice a2 n2 c2) ∧ w'.cell? ⟨K, 2, none⟩ = some (.slice a3 n3 c3)) ∧ (LitAt w' JA [v1_, v2_, -1, 501])) ∧ (LitAt w' JB [0, 0, 1, 1, 2, 3]))) (fun _ h => h.1) ?_
                have hHeld := s
                refine wpAnyH_take (i := 13) (v := ?vr1y21x13) nth13 (by kernel_rfl) (by kernel_rfl) (by kernel_rfl) (fun _ _ _ h => h) (Or.inl ⟨by rfl, ?hyr1y21x13⟩) hHeld ?_
                case hyr1y21x13 => (intro wH hSw; (try dsimp only at hSw); go_simp; (try with_reducible rfl))
                simp only [Act.put, List.setIfInBounds_toArray, List.set_cons_zero, List.set_cons_succ]
                refine wpAnyH_take (i := 14) (v := .int .i64 (ix : Int)) nth14 (by kernel_rfl) (by kernel_rfl) (by kernel_rfl) (fun _ _ _ h => h) (Or.inl ⟨by rfl, ?hyr1y22x14⟩) hHeld ?_
                case hyr1y22x14 => (intro wH hSw; have hc := hSw.2 t (by simp; omega); rw [ix1] at hc; clear hSw; go_simp)
                simp only [Act.put, List.setIfInBounds_toArray, List.set_cons_zero, List.set_cons_succ]
                refine wpAnyH_take (i := 15) (v := ?vr1y23x15) nth15 (by kernel_rfl) (by kernel_rfl) (by kernel_rfl) (fun _ _ _ h => h) (Or.inl ⟨by rfl, ?hyr1y23x15⟩) hHeld ?_
                case hyr1y23x15 => (intro wH hSw; (try dsimp only at hSw); go_simp; (try with_reducible rfl))
                simp only [Act.put, List.setIfInBounds_toArray, List.set_cons_zero, List.set_cons_succ]
                refine wpAnyH_take (i := 16) (v := .int .i64 n) nth16 (by kernel_rfl) (by kernel_rfl) (by kernel_rfl) (fun _ _ _ h => h) (Or.inl ⟨by rfl, ?hyr1y24x16⟩) hHeld ?_
                case hyr1y24x16 => (intro wH hSw; have hc := hSw.1.2 ix (by simp; omega); rw [hn] at hc; clear hSw; go_simp)
                simp only [Act.put, List.setIfInBounds_toArray, List.set_cons_zero, List.set_cons_succ]
                refine wpAnyH_ready (rs := [19]) (by kernel_rfl) (by simp) ?_
                refine AllReadyH.cons nth19 (fun KK hKK => ?_) ?_
                · clear hHeld s
                  obtain ⟨a1_, a2_, a3_, a4_, a5_⟩ := fl.hs
                  replace hn := Lib.hid hn
                  replace ix1 := Lib.hid ix1
                  go_simp
                  replace hn := hn.out
                  replace ix1 := ix1.out
                  clear a1_ a2_ a3_ a4_ a5_
                  obtain ⟨u8, hu, gl, lk⟩ := fl.store2 X Y
                  rw [← hu]
                  replace fl := gl
                  replace litA := lk _ _ (by omega) litA
                  replace litB := lk _ _ (by omega) litB
                  clear hu gl lk
                  have s := (And.intro (And.intro (And.intro fl.kb.c0 (And.intro fl.kb.c1 fl.kb.c2)) litA.1) litB.1)
                  refine hKK.out _ _ s (fun hHeld => ?_)
                  clear hKK KK hHeld
                  try simp only [Act.put, List.setIfInBounds_toArray, List.set_cons_zero, List.set_cons_succ]
                  have hHeld := s
                  refine wpAnyH_take (i := 20) (v := ?vr1y25x20) nth20 (by kernel_rfl) (by kernel_rfl) (by kernel_rfl) (fun _ _ _ h => h) (Or.inl ⟨by rfl, ?hyr1y25x20⟩) hHeld ?_
                  case hyr1y25x20 => (intro wH hSw; (try dsimp only at hSw); go_simp; (try with_reducible rfl))
                  simp only [Act.put, List.setIfInBounds_toArray, List.set_cons_zero, List.set_cons_succ]
                  refine wpAnyH_done (by kernel_rfl) ?_ _
                  clear hHeld s
                  obtain ⟨a1_, a2_, a3_, a4_, a5_, a6_⟩ := fl.kr
                  obtain ⟨b1_, b2_, b3_, b4_, b5_⟩ := fl.hs
                  go_wp2_with fail
                  exact bodyPost_ret (v := .tuple #[.agg #[.slice a1 n1 c1, .slice a2 n2 c2, .slice a3 n3 c3], .slice aj nj cj, .agg #[.int .i64 X, .int .i64 Y], .int .i64 n]) (by simp [results, Tryd.results30, go_sem, a1_, a2_, a3_, b1_, b2_]) rfl ⟨a1, n1, c1, a2, n2, c2, a3, n3, c3, l, lo, hi, aj, nj, cj, J, X, Y, n, rfl, fl.hf.base (by omega), ⟨hj1.out, by omega, hj3.out, fl.hj.base (by omega)⟩, fl.q⟩
                exact AllReadyH.nil
              refine AllReadyH.cons nth19 (fun KK hKK => ?_) ?_
              · clear hHeld s
                obtain ⟨a1_, a2_, a3_, a4_, a5_⟩ := fl.hs
                replace hn := Lib.hid hn
                replace ix1 := Lib.hid ix1
                go_simp
                replace hn := hn.out
                replace ix1 := ix1.out
                clear a1_ a2_ a3_ a4_ a5_
                obtain ⟨u7, hu, gl, lk⟩ := fl.store2 X Y
                rw [← hu]
                replace fl := gl
                replace litA := lk _ _ (by omega) litA
                clear hu gl lk
                have s := (And.intro (And.intro fl.kb.c0 (And.intro fl.kb.c1 fl.kb.c2)) litA.1)
                refine hKK.out _ _ s (fun hHeld => ?_)
                clear hKK KK hHeld
                try simp only [Act.put, List.setIfInBounds_toArray, List.set_cons_zero, List.set_cons_succ]
                have hHeld := s
                refine wpAnyH_ready (rs := [10]) (by kernel_rfl) (by simp) ?_
                refine AllReadyH.cons nth10 (fun KK hKK => ?_) ?_
                · clear hHeld s
                  go_simp
                  obtain ⟨u8, JB, hu, hJ, gl, litB, gtB, lk, rk⟩ := fl.lits [0, 0, 1, 1, 2, 3] 3 _ rfl
                  simp only [List.map_cons, List.map_nil] at hu
                  rw [← hu, ← hJ]
                  replace fl := gl
                  replace litA := lk _ _ litA
                  clear hu hJ gl lk rk
                  have s := (And.intro (And.intro fl.kb.c0 (And.intro fl.kb.c1 fl.kb.c2)) litA.1)
                  refine hKK.out _ _ s (fun hHeld => ?_)
                  clear hKK KK hHeld
                  try simp only [Act.put, List.setIfInBounds_toArray, List.set_cons_zero, List.set_cons_succ]
                  clear s
                  have s := (And.intro (And.intro (And.intro fl.kb.c0 (And.intro fl.kb.c1 fl.kb.c2)) litA.1) litB.1)
                  refine wpAnyH_strong (S' := (fun w' => ((w'.cell? ⟨K, 0, none⟩ = some (.slice a1 n1 c1) ∧ w'.cell? ⟨K, 1, none⟩ = some (.slice a2 n2 c2) ∧ w'.cell? ⟨K, 2, none⟩ = some (.slice a3 n3 c3)) ∧ (LitAt w' JA [v1_, v2_, -1, 501])) ∧ (LitAt w' JB [0, 0, 1, 1, 2, 3]))) (fun _ h => h.1) ?_
                  have hHeld := s
                  refine wpAnyH_take (i := 13) (v := ?vr1y26x13) nth13 (by kernel_rfl) (by kernel_rfl) (by kernel_rfl) (fun _ _ _ h => h) (Or.inl ⟨by rfl, ?hyr1y26x13⟩) hHeld ?_
                  case hyr1y26x13 => (intro wH hSw; (try dsimp only at hSw); go_simp; (try with_reducible rfl))
                  simp only [Act.put, List.setIfInBounds_toArray, List.set_cons_zero, List.set_cons_succ]
                  refine wpAnyH_take (i := 14) (v := .int .i64 (ix : Int)) nth14 (by kernel_rfl) (by kernel_rfl) (by kernel_rfl) (fun _ _ _ h => h) (Or.inl ⟨by rfl, ?hyr1y27x14⟩) hHeld ?_
                  case hyr1y27x14 => (intro wH hSw; have hc := hSw.2 t (by simp; omega); rw [ix1] at hc; clear hSw; go_simp)
                  simp only [Act.put, List.setIfInBounds_toArray, List.set_cons_zero, List.set_cons_succ]
                  refine wpAnyH_take (i := 15) (v := ?vr1y28x15) nth15 (by kernel_rfl) (by kernel_rfl) (by kernel_rfl) (fun _ _ _ h => h) (Or.inl ⟨by rfl, ?hyr1y28x15⟩) hHeld ?_
                  case hyr1y28x15 => (intro wH hSw; (try dsimp only at hSw); go_simp; (try with_reducible rfl))
                  simp only [Act.put, List.setIfInBounds_toArray, List.set_cons_zero, List.set_cons_succ]
                  refine wpAnyH_take (i := 16) (v := .int .i64 n) nth16 (by kernel_rfl) (by kernel_rfl) (by kernel_rfl) (fun _ _ _ h => h) (Or.inl ⟨by rfl, ?hyr1y29x16⟩) hHeld ?_
                  case hyr1y29x16 => (intro wH hSw; have hc := hSw.1.2 ix (by simp; omega); rw [hn] at hc; clear hSw; go_simp)
                  simp only [Act.put, List.setIfInBounds_toArray, List.set_cons_zero, List.set_cons_succ]
                  refine wpAnyH_take (i := 20) (v := ?vr1y30x20) nth20 (by kernel_rfl) (by kernel_rfl) (by kernel_rfl) (fun _ _ _ h => h) (Or.inl ⟨by rfl, ?hyr1y30x20⟩) hHeld ?_
                  case hyr1y30x20 => (intro wH hSw; (try dsimp only at hSw); go_simp; (try with_reducible rfl))
                  simp only [Act.put, List.setIfInBounds_toArray, List.set_cons_zero, List.set_cons_succ]
                  refine wpAnyH_done (by kernel_rfl) ?_ _
                  clear hHeld s
                  obtain ⟨a1_, a2_, a3_, a4_, a5_, a6_⟩ := fl.kr
                  obtain ⟨b1_, b2_, b3_, b4_, b5_⟩ := fl.hs
                  go_wp2_with fail
                  exact bodyPost_ret (v := .tuple #[.agg #[.slice a1 n1 c1, .slice a2 n2 c2, .slice a3 n3 c3], .slice aj nj cj, .agg #[.int .i64 X, .int .i64 Y], .int .i64 n]) (by simp [results, Tryd.results30, go_sem, a1_, a2_, a3_, b1_, b2_]) rfl ⟨a1, n1, c1, a2, n2, c2, a3, n3, c3, l, lo, hi, aj, nj, cj, J, X, Y, n, rfl, fl.hf.base (by omega), ⟨hj1.out, by omega, hj3.out, fl.hj.base (by omega)⟩, fl.q⟩
                exact AllReadyH.nil
              exact AllReadyH.nil
            exact AllReadyH.nil
          exact AllReadyH.nil
        refine AllReadyH.cons nth10 (fun KK hKK => ?_) ?_
        · clear hHeld s
          go_simp
          obtain ⟨u4, JB, hu, hJ, gl, litB, gtB, lk, rk⟩ := fl.lits [0, 0, 1, 1, 2, 3] 3 _ rfl
          simp only [List.map_cons, List.map_nil] at hu
          rw [← hu, ← hJ]
          replace fl := gl
          replace rd := rk _ _ rd
          clear hu hJ gl lk rk
          have s := (And.intro fl.kb.c0 (And.intro fl.kb.c1 fl.kb.c2))
          refine hKK.out _ _ s (fun hHeld => ?_)
          clear hKK KK hHeld
          try simp only [Act.put, List.setIfInBounds_toArray, List.set_cons_zero, List.set_cons_succ]
          clear s
          have s := (And.intro (And.intro fl.kb.c0 (And.intro fl.kb.c1 fl.kb.c2)) litB.1)
          refine wpAnyH_strong (S' := (fun w' => (w'.cell? ⟨K, 0, none⟩ = some (.slice a1 n1 c1) ∧ w'.cell? ⟨K, 1, none⟩ = some (.slice a2 n2 c2) ∧ w'.cell? ⟨K, 2, none⟩ = some (.slice a3 n3 c3)) ∧ (LitAt w' JB [0, 0, 1, 1, 2, 3]))) (fun _ h => h.1) ?_
          have hHeld := s
          refine wpAnyH_ready (rs := [9, 12]) (by kernel_rfl) (by simp) ?_
          refine AllReadyH.cons nth9 (fun KK hKK => ?_) ?_
          · clear hHeld s
            go_simp
            obtain ⟨u5, JA, hu, hJ, gl, litA, gtA, lk, rk⟩ := fl.lits [v1_, v2_, -1, 501] 3 _ rfl
            simp only [List.map_cons, List.map_nil] at hu
            rw [← hu, ← hJ]
            replace fl := gl
            replace litB := lk _ _ litB
            replace rd := rk _ _ rd
            clear hu hJ gl lk rk
            have s := (And.intro (And.intro fl.kb.c0 (And.intro fl.kb.c1 fl.kb.c2)) litB.1)
            refine hKK.out _ _ s (fun hHeld => ?_)
            clear hKK KK hHeld
            try simp only [Act.put, List.setIfInBounds_toArray, List.set_cons_zero, List.set_cons_succ]
            clear s
            have s := (And.intro (And.intro (And.intro fl.kb.c0 (And.intro fl.kb.c1 fl.kb.c2)) litB.1) litA.1)
            refine wpAnyH_strong (S' := (fun w' => ((w'.cell? ⟨K, 0, none⟩ = some (.slice a1 n1 c1) ∧ w'.cell? ⟨K, 1, none⟩ = some (.slice a2 n2 c2) ∧ w'.cell? ⟨K, 2, none⟩ = some (.slice a3 n3 c3)) ∧ (LitAt w' JB [0, 0, 1, 1, 2, 3])) ∧ (LitAt w' JA [v1_, v2_, -1, 501]))) (fun _ h => h.1) ?_
            have hHeld := s
            refine wpAnyH_ready (rs := [12]) (by kernel_rfl) (by simp) ?_
            refine AllReadyH.cons nth12 (fun KK hKK => ?_) ?_
            · clear hHeld s
              go_simp
              go_at_call 58
              refine (pick_any R _ _ _ rd (by omega) (by omega) (by omega)).mono ?_
              rintro e u6 ⟨t_, tp, tq, rfl, r, b⟩
              replace litB := litB.beside b (by omega)
              replace litA := litA.beside b (by omega)
              replace fl := fl.beside b ⟨hh.1, by omega, hB.1, hB.2⟩
              clear b r rd
              obtain ⟨t, rfl⟩ : ∃ t : Nat, t_ = t := ⟨t_.toNat, by omega⟩
              have tl : t < 6 := by omega
              obtain ⟨ix1, ix2⟩ := follow_idx t tl
              generalize hix : (([0, 0, 1, 1, 2, 3] : List Int).getD t 0).toNat = ix at ix1 ix2
              clear hix
              have ix3 : (ix : Int) < 4 := by omega
              obtain ⟨n, hn⟩ : ∃ n, ([v1_, v2_, -1, 501] : List Int).getD ix 0 = n := ⟨_, rfl⟩
              have s := (And.intro (And.intro (And.intro fl.kb.c0 (And.intro fl.kb.c1 fl.kb.c2)) litB.1) litA.1)
              refine hKK.out _ _ s (fun hHeld => ?_)
              clear hKK KK hHeld
              try simp only [Act.put, List.setIfInBounds_toArray, List.set_cons_zero, List.set_cons_succ]
              have hHeld := s
              refine wpAnyH_take (i := 13) (v := ?vr1y31x13) nth13 (by kernel_rfl) (by kernel_rfl) (by kernel_rfl) (fun _ _ _ h => h) (Or.inl ⟨by rfl, ?hyr1y31x13⟩) hHeld ?_
              case hyr1y31x13 => (intro wH hSw; (try dsimp only at hSw); go_simp; (try with_reducible rfl))
              simp only [Act.put, List.setIfInBounds_toArray, List.set_cons_zero, List.set_cons_succ]
              refine wpAnyH_take (i := 14) (v := .int .i64 (ix : Int)) nth14 (by kernel_rfl) (by kernel_rfl) (by kernel_rfl) (fun _ _ _ h => h) (Or.inl ⟨by rfl, ?hyr1y32x14⟩) hHeld ?_
              case hyr1y32x14 => (intro wH hSw; have hc := hSw.1.2 t (by simp; omega); rw [ix1] at hc; clear hSw; go_simp)
              simp only [Act.put, List.setIfInBounds_toArray, List.set_cons_zero, List.set_cons_succ]
              refine wpAnyH_take (i := 15) (v := ?vr1y33x15) nth15 (by kernel_rfl) (by kernel_rfl) (by kernel_rfl) (fun _ _ _ h => h) (Or.inl ⟨by rfl, ?hyr1y33x15⟩) hHeld ?_
              case hyr1y33x15 => (intro wH hSw; (try dsimp only at hSw); go_simp; (try with_reducible rfl))
              simp only [Act.put, List.setIfInBounds_toArray, List.set_cons_zero, List.set_cons_succ]
              refine wpAnyH_take (i := 16) (v := .int .i64 n) nth16 (by kernel_rfl) (by kernel_rfl) (by kernel_rfl) (fun _ _ _ h => h) (Or.inl ⟨by rfl, ?hyr1y34x16⟩) hHeld ?_
              case hyr1y34x16 => (intro wH hSw; have hc := hSw.2 ix (by simp; omega); rw [hn] at hc; clear hSw; go_simp)
              simp only [Act.put, List.setIfInBounds_toArray, List.set_cons_zero, List.set_cons_succ]
              refine wpAnyH_ready (rs := [17]) (by kernel_rfl) (by simp) ?_
              refine AllReadyH.cons nth17 (fun KK hKK => ?_) ?_
              · clear hHeld s
                obtain ⟨a1_, a2_, a3_, a4_, a5_, a6_⟩ := fl.kr
                replace hn := Lib.hid hn
                replace ix1 := Lib.hid ix1
                go_simp
                replace hn := hn.out
                replace ix1 := ix1.out
                clear a1_ a2_ a3_ a4_ a5_ a6_
                obtain ⟨u7, hu, gl, lk⟩ := fl.store1
                rw [← hu]
                replace fl := gl
                replace litB := lk _ _ (by omega) litB
                replace litA := lk _ _ (by omega) litA
                clear hu gl lk
                have s := (And.intro (And.intro (And.intro fl.kb.c0 (And.intro fl.kb.c1 fl.kb.c2)) litB.1) litA.1)
                refine hKK.out _ _ s (fun hHeld => ?_)
                clear hKK KK hHeld
                try simp only [Act.put, List.setIfInBounds_toArray, List.set_cons_zero, List.set_cons_succ]
                have hHeld := s
                refine wpAnyH_take (i := 18) (v := ?vr1y35x18) nth18 (by kernel_rfl) (by kernel_rfl) (by kernel_rfl) (fun _ _ _ h => h) (Or.inl ⟨by rfl, ?hyr1y35x18⟩) hHeld ?_
                case hyr1y35x18 => (intro wH hSw; (try dsimp only at hSw); go_simp; (try with_reducible rfl))
                simp only [Act.put, List.setIfInBounds_toArray, List.set_cons_zero, List.set_cons_succ]
                refine wpAnyH_ready (rs := [19]) (by kernel_rfl) (by simp) ?_
                refine AllReadyH.cons nth19 (fun KK hKK => ?_) ?_
                · clear hHeld s
                  obtain ⟨a1_, a2_, a3_, a4_, a5_⟩ := fl.hs
                  replace hn := Lib.hid hn
                  replace ix1 := Lib.hid ix1
                  go_simp
                  replace hn := hn.out
                  replace ix1 := ix1.out
                  clear a1_ a2_ a3_ a4_ a5_
                  obtain ⟨u8, hu, gl, lk⟩ := fl.store2 X Y
                  rw [← hu]
                  replace fl := gl
                  replace litB := lk _ _ (by omega) litB
                  replace litA := lk _ _ (by omega) litA
                  clear hu gl lk
                  have s := (And.intro (And.intro (And.intro fl.kb.c0 (And.intro fl.kb.c1 fl.kb.c2)) litB.1) litA.1)
                  refine hKK.out _ _ s (fun hHeld => ?_)
                  clear hKK KK hHeld
                  try simp only [Act.put, List.setIfInBounds_toArray, List.set_cons_zero, List.set_cons_succ]
                  have hHeld := s
                  refine wpAnyH_take (i := 20) (v := ?vr1y36x20) nth20 (by kernel_rfl) (by kernel_rfl) (by kernel_rfl) (fun _ _ _ h => h) (Or.inl ⟨by rfl, ?hyr1y36x20⟩) hHeld ?_
                  case hyr1y36x20 => (intro wH hSw; (try dsimp only at hSw); go_simp; (try with_reducible rfl))
                  simp only [Act.put, List.setIfInBounds_toArray, List.set_cons_zero, List.set_cons_succ]
                  refine wpAnyH_done (by kernel_rfl) ?_ _
                  clear hHeld s
                  obtain ⟨a1_, a2_, a3_, a4_, a5_, a6_⟩ := fl.kr
                  obtain ⟨b1_, b2_, b3_, b4_, b5_⟩ := fl.hs
                  go_wp2_with fail
                  exact bodyPost_ret (v := .tuple #[.agg #[.slice a1 n1 c1, .slice a2 n2 c2, .slice a3 n3 c3], .slice aj nj cj, .agg #[.int .i64 X, .int .i64 Y], .int .i64 n]) (by simp [results, Tryd.results30, go_sem, a1_, a2_, a3_, b1_, b2_]) rfl ⟨a1, n1, c1, a2, n2, c2, a3, n3, c3, l, lo, hi, aj, nj, cj, J, X, Y, n, rfl, fl.hf.base (by omega), ⟨hj1.out, by omega, hj3.out, fl.hj.base (by omega)⟩, fl.q⟩
                exact AllReadyH.nil
              exact AllReadyH.nil
            exact AllReadyH.nil
          refine AllReadyH.cons nth12 (fun KK hKK => ?_) ?_
          · clear hHeld s
            go_simp
            go_at_call 58
            refine (pick_any R _ _ _ rd (by omega) (by omega) (by omega)).mono ?_
            rintro e u5 ⟨t_, tp, tq, rfl, r, b⟩
            replace litB := litB.beside b (by omega)
            replace fl := fl.beside b ⟨hh.1, by omega, hB.1, hB.2⟩
            clear b r rd
            obtain ⟨t, rfl⟩ : ∃ t : Nat, t_ = t := ⟨t_.toNat, by omega⟩
            have tl : t < 6 := by omega
            obtain ⟨ix1, ix2⟩ := follow_idx t tl
            generalize hix : (([0, 0, 1, 1, 2, 3] : List Int).getD t 0).toNat = ix at ix1 ix2
            clear hix
            have ix3 : (ix : Int) < 4 := by omega
            obtain ⟨n, hn⟩ : ∃ n, ([v1_, v2_, -1, 501] : List Int).getD ix 0 = n := ⟨_, rfl⟩
            have s := (And.intro (And.intro fl.kb.c0 (And.intro fl.kb.c1 fl.kb.c2)) litB.1)
            refine hKK.out _ _ s (fun hHeld => ?_)
            clear hKK KK hHeld
            try simp only [Act.put, List.setIfInBounds_toArray, List.set_cons_zero, List.set_cons_succ]
            have hHeld := s
            refine wpAnyH_take (i := 13) (v := ?vr1y37x13) nth13 (by kernel_rfl) (by kernel_rfl) (by kernel_rfl) (fun _ _ _ h => h) (Or.inl ⟨by rfl, ?hyr1y37x13⟩) hHeld ?_
            case hyr1y37x13 => (intro wH hSw; (try dsimp only at hSw); go_simp; (try with_reducible rfl))
            simp only [Act.put, List.setIfInBounds_toArray, List.set_cons_zero, List.set_cons_succ]
            refine wpAnyH_take (i := 14) (v := .int .i64 (ix : Int)) nth14 (by kernel_rfl) (by kernel_rfl) (by kernel_rfl) (fun _ _ _ h => h) (Or.inl ⟨by rfl, ?hyr1y38x14⟩) hHeld ?_
            case hyr1y38x14 => (intro wH hSw; have hc := hSw.2 t (by simp; omega); rw [ix1] at hc; clear hSw; go_simp)
            simp only [Act.put, List.setIfInBounds_toArray, List.set_cons_zero, List.set_cons_succ]
            refine wpAnyH_ready (rs := [9, 17]) (by kernel_rfl) (by simp) ?_
            refine AllReadyH.cons nth9 (fun KK hKK => ?_) ?_
            · clear hHeld s
              go_simp
              obtain ⟨u6, JA, hu, hJ, gl, litA, gtA, lk, rk⟩ := fl.lits [v1_, v2_, -1, 501] 3 _ rfl
              simp only [List.map_cons, List.map_nil] at hu
              rw [← hu, ← hJ]
              replace fl := gl
              replace litB := lk _ _ litB
              clear hu hJ gl lk rk
              have s := (And.intro (And.intro fl.kb.c0 (And.intro fl.kb.c1 fl.kb.c2)) litB.1)
              refine hKK.out _ _ s (fun hHeld => ?_)
              clear hKK KK hHeld
              try simp only [Act.put, List.setIfInBounds_toArray, List.set_cons_zero, List.set_cons_succ]
              clear s
              have s := (And.intro (And.intro (And.intro fl.kb.c0 (And.intro fl.kb.c1 fl.kb.c2)) litB.1) litA.1)
              refine wpAnyH_strong (S' := (fun w' => ((w'.cell? ⟨K, 0, none⟩ = some (.slice a1 n1 c1) ∧ w'.cell? ⟨K, 1, none⟩ = some (.slice a2 n2 c2) ∧ w'.cell? ⟨K, 2, none⟩ = some (.slice a3 n3 c3)) ∧ (LitAt w' JB [0, 0, 1, 1, 2, 3])) ∧ (LitAt w' JA [v1_, v2_, -1, 501]))) (fun _ h => h.1) ?_
              have hHeld := s
              refine wpAnyH_take (i := 15) (v := ?vr1y39x15) nth15 (by kernel_rfl) (by kernel_rfl) (by kernel_rfl) (fun _ _ _ h => h) (Or.inl ⟨by rfl, ?hyr1y39x15⟩) hHeld ?_
              case hyr1y39x15 => (intro wH hSw; (try dsimp only at hSw); go_simp; (try with_reducible rfl))
              simp only [Act.put, List.setIfInBounds_toArray, List.set_cons_zero, List.set_cons_succ]
              refine wpAnyH_take (i := 16) (v := .int .i64 n) nth16 (by kernel_rfl) (by kernel_rfl) (by kernel_rfl) (fun _ _ _ h => h) (Or.inl ⟨by rfl, ?hyr1y40x16⟩) hHeld ?_
              case hyr1y40x16 => (intro wH hSw; have hc := hSw.2 ix (by simp; omega); rw [hn] at hc; clear hSw; go_simp)
              simp only [Act.put, List.setIfInBounds_toArray, List.set_cons_zero, List.set_cons_succ]
              refine wpAnyH_ready (rs := [17]) (by kernel_rfl) (by simp) ?_
              refine AllReadyH.cons nth17 (fun KK hKK => ?_) ?_
              · clear hHeld s
                obtain ⟨a1_, a2_, a3_, a4_, a5_, a6_⟩ := fl.kr
                replace hn := Lib.hid hn
                replace ix1 := Lib.hid ix1
                go_simp
                replace hn := hn.out
                replace ix1 := ix1.out
                clear a1_ a2_ a3_ a4_ a5_ a6_
                obtain ⟨u7, hu, gl, lk⟩ := fl.store1
                rw [← hu]
                replace fl := gl
                replace litB := lk _ _ (by omega) litB
                replace litA := lk _ _ (by omega) litA
                clear hu gl lk
                have s := (And.intro (And.intro (And.intro fl.kb.c0 (And.intro fl.kb.c1 fl.kb.c2)) litB.1) litA.1)
                refine hKK.out _ _ s (fun hHeld => ?_)
                clear hKK KK hHeld
                try simp only [Act.put, List.setIfInBounds_toArray, List.set_cons_zero, List.set_cons_succ]
                have hHeld := s
                refine wpAnyH_take (i := 18) (v := ?vr1y41x18) nth18 (by kernel_rfl) (by kernel_rfl) (by kernel_rfl) (fun _ _ _ h => h) (Or.inl ⟨by rfl, ?hyr1y41x18⟩) hHeld ?_
                case hyr1y41x18 => (intro wH hSw; (try dsimp only at hSw); go_simp; (try with_reducible rfl))
                simp only [Act.put, List.setIfInBounds_toArray, List.set_cons_zero, List.set_cons_succ]
                refine wpAnyH_ready (rs := [19]) (by kernel_rfl) (by simp) ?_
                refine AllReadyH.cons nth19 (fun KK hKK => ?_) ?_
                · clear hHeld s
                  obtain ⟨a1_, a2_, a3_, a4_, a5_⟩ := fl.hs
                  replace hn := Lib.hid hn
                  replace ix1 := Lib.hid ix1
                  go_simp
                  replace hn := hn.out
                  replace ix1 := ix1.out
                  clear a1_ a2_ a3_ a4_ a5_
                  obtain ⟨u8, hu, gl, lk⟩ := fl.store2 X Y
                  rw [← hu]
                  replace fl := gl
                  replace litB := lk _ _ (by omega) litB
                  replace litA := lk _ _ (by omega) litA
                  clear hu gl lk
                  have s := (And.intro (And.intro (And.intro fl.kb.c0 (And.intro fl.kb.c1 fl.kb.c2)) litB.1) litA.1)
                  refine hKK.out _ _ s (fun hHeld => ?_)
                  clear hKK KK hHeld
                  try simp only [Act.put, List.setIfInBounds_toArray, List.set_cons_zero, List.set_cons_succ]
                  have hHeld := s
                  refine wpAnyH_take (i := 20) (v := ?vr1y42x20) nth20 (by kernel_rfl) (by kernel_rfl) (by kernel_rfl) (fun _ _ _ h => h) (Or.inl ⟨by rfl, ?hyr1y42x20⟩) hHeld ?_
                  case hyr1y42x20 => (intro wH hSw; (try dsimp only at hSw); go_simp; (try with_reducible rfl))
                  simp only [Act.put, List.setIfInBounds_toArray, List.set_cons_zero, List.set_cons_succ]
                  refine wpAnyH_done (by kernel_rfl) ?_ _
                  clear hHeld s
                  obtain ⟨a1_, a2_, a3_, a4_, a5_, a6_⟩ := fl.kr
                  obtain ⟨b1_, b2_, b3_, b4_, b5_⟩ := fl.hs
                  go_wp2_with fail
                  exact bodyPost_ret (v := .tuple #[.agg #[.slice a1 n1 c1, .slice a2 n2 c2, .slice a3 n3 c3], .slice aj nj cj, .agg #[.int .i64 X, .int .i64 Y], .int .i64 n]) (by simp [results, Tryd.results30, go_sem, a1_, a2_, a3_, b1_, b2_]) rfl ⟨a1, n1, c1, a2, n2, c2, a3, n3, c3, l, lo, hi, aj, nj, cj, J, X, Y, n, rfl, fl.hf.base (by omega), ⟨hj1.out, by omega, hj3.out, fl.hj.base (by omega)⟩, fl.q⟩
                exact AllReadyH.nil
              exact AllReadyH.nil
            refine AllReadyH.cons nth17 (fun KK hKK => ?_) ?_
            · clear hHeld s
              obtain ⟨a1_, a2_, a3_, a4_, a5_, a6_⟩ := fl.kr
              replace hn := Lib.hid hn
              replace ix1 := Lib.hid ix1
              go_simp
              replace hn := hn.out
              replace ix1 := ix1.out
              clear a1_ a2_ a3_ a4_ a5_ a6_
              obtain ⟨u6, hu, gl, lk⟩ := fl.store1
              rw [← hu]
              replace fl := gl
              replace litB := lk _ _ (by omega) litB
              clear hu gl lk
              have s := (And.intro (And.intro fl.kb.c0 (And.intro fl.kb.c1 fl.kb.c2)) litB.1)
              refine hKK.out _ _ s (fun hHeld => ?_)
              clear hKK KK hHeld
              try simp only [Act.put, List.setIfInBounds_toArray, List.set_cons_zero, List.set_cons_succ]
              have hHeld := s
              refine wpAnyH_take (i := 18) (v := ?vr1y43x18) nth18 (by kernel_rfl) (by kernel_rfl) (by kernel_rfl) (fun _ _ _ h => h) (Or.inl ⟨by rfl, ?hyr1y43x18⟩) hHeld ?_
              case hyr1y43x18 => (intro wH hSw; (try dsimp only at hSw); go_simp; (try with_reducible rfl))
              simp only [Act.put, List.setIfInBounds_toArray, List.set_cons_zero, List.set_cons_succ]
              refine wpAnyH_ready (rs := [9, 19]) (by kernel_rfl) (by simp) ?_
              refine AllReadyH.cons nth9 (fun KK hKK => ?_) ?_
              · clear hHeld s
                go_simp
                obtain ⟨u7, JA, hu, hJ, gl, litA, gtA, lk, rk⟩ := fl.lits [v1_, v2_, -1, 501] 3 _ rfl
                simp only [List.map_cons, List.map_nil] at hu
                rw [← hu, ← hJ]
                replace fl := gl
                replace litB := lk _ _ litB
                clear hu hJ gl lk rk
                have s := (And.intro (And.intro fl.kb.c0 (And.intro fl.kb.c1 fl.kb.c2)) litB.1)
                refine hKK.out _ _ s (fun hHeld => ?_)
                clear hKK KK hHeld
                try simp only [Act.put, List.setIfInBounds_toArray, List.set_cons_zero, List.set_cons_succ]
                clear s
                have s := (And.intro (And.intro (And.intro fl.kb.c0 (And.intro fl.kb.c1 fl.kb.c2)) litB.1) litA.1)
                refine wpAnyH_strong (S' := (fun w' => ((w'.cell? ⟨K, 0, none⟩ = some (.slice a1 n1 c1) ∧ w'.cell? ⟨K, 1, none⟩ = some (.slice a2 n2 c2) ∧ w'.cell? ⟨K, 2, none⟩ = some (.slice a3 n3 c3)) ∧ (LitAt w' JB [0, 0, 1, 1, 2, 3])) ∧ (LitAt w' JA [v1_, v2_, -1, 501]))) (fun _ h => h.1) ?_
                have hHeld := s
                refine wpAnyH_take (i := 15) (v := ?vr1y44x15) nth15 (by kernel_rfl) (by kernel_rfl) (by kernel_rfl) (fun _ _ _ h => h) (Or.inl ⟨by rfl, ?hyr1y44x15⟩) hHeld ?_
                case hyr1y44x15 => (intro wH hSw; (try dsimp only at hSw); go_simp; (try with_reducible rfl))
                simp only [Act.put, List.setIfInBounds_toArray, List.set_cons_zero, List.set_cons_succ]
                refine wpAnyH_take (i := 16) (v := .int .i64 n) nth16 (by kernel_rfl) (by kernel_rfl) (by kernel_rfl) (fun _ _ _ h => h) (Or.inl ⟨by rfl, ?hyr1y45x16⟩) hHeld ?_
                case hyr1y45x16 => (intro wH hSw; have hc := hSw.2 ix (by simp; omega); rw [hn] at hc; clear hSw; go_simp)
                simp only [Act.put, List.setIfInBounds_toArray, List.set_cons_zero, List.set_cons_succ]
                refine wpAnyH_ready (rs := [19]) (by kernel_rfl) (by simp) ?_
                refine AllReadyH.cons nth19 (fun KK hKK => ?_) ?_
                · clear hHeld s
                  obtain ⟨a1_, a2_, a3_, a4_, a5_⟩ := fl.hs
                  replace hn := Lib.hid hn
                  replace ix1 := Lib.hid ix1
                  go_simp
                  replace hn := hn.out
                  replace ix1 := ix1.out
                  clear a1_ a2_ a3_ a4_ a5_
                  obtain ⟨u8, hu, gl, lk⟩ := fl.store2 X Y
                  rw [← hu]
                  replace fl := gl
                  replace litB := lk _ _ (by omega) litB
                  replace litA := lk _ _ (by omega) litA
                  clear hu gl lk
                  have s := (And.intro (And.intro (And.intro fl.kb.c0 (And.intro fl.kb.c1 fl.kb.c2)) litB.1) litA.1)
                  refine hKK.out _ _ s (fun hHeld => ?_)
                  clear hKK KK hHeld
                  try simp only [Act.put, List.setIfInBounds_toArray, List.set_cons_zero, List.set_cons_succ]
                  have hHeld := s
                  refine wpAnyH_take (i := 20) (v := ?vr1y46x20) nth20 (by kernel_rfl) (by kernel_rfl) (by kernel_rfl) (fun _ _ _ h => h) (Or.inl ⟨by rfl, ?hyr1y46x20⟩) hHeld ?_
                  case hyr1y46x20 => (intro wH hSw; (try dsimp only at hSw); go_simp; (try with_reducible rfl))
                  simp only [Act.put, List.setIfInBounds_toArray, List.set_cons_zero, List.set_cons_succ]
                  refine wpAnyH_done (by kernel_rfl) ?_ _
                  clear hHeld s
                  obtain ⟨a1_, a2_, a3_, a4_, a5_, a6_⟩ := fl.kr
                  obtain ⟨b1_, b2_, b3_, b4_, b5_⟩ := fl.hs
                  go_wp2_with fail
                  exact bodyPost_ret (v := .tuple #[.agg #[.slice a1 n1 c1, .slice a2 n2 c2, .slice a3 n3 c3], .slice aj nj cj, .agg #[.int .i64 X, .int .i64 Y], .int .i64 n]) (by simp [results, Tryd.results30, go_sem, a1_, a2_, a3_, b1_, b2_]) rfl ⟨a1, n1, c1, a2, n2, c2, a3, n3, c3, l, lo, hi, aj, nj, cj, J, X, Y, n, rfl, fl.hf.base (by omega), ⟨hj1.out, by omega, hj3.out, fl.hj.base (by omega)⟩, fl.q⟩
                exact AllReadyH.nil
              refine AllReadyH.cons nth19 (fun KK hKK => ?_) ?_
              · clear hHeld s
                obtain ⟨a1_, a2_, a3_, a4_, a5_⟩ := fl.hs
                replace hn := Lib.hid hn
                replace ix1 := Lib.hid ix1
                go_simp
                replace hn := hn.out
                replace ix1 := ix1.out
                clear a1_ a2_ a3_ a4_ a5_
                obtain ⟨u7, hu, gl, lk⟩ := fl.store2 X Y
                rw [← hu]
                replace fl := gl
                replace litB := lk _ _ (by omega) litB
                clear hu gl lk
                have s := (And.intro (And.intro fl.kb.c0 (And.intro fl.kb.c1 fl.kb.c2)) litB.1)
                refine hKK.out _ _ s (fun hHeld => ?_)
                clear hKK KK hHeld
                try simp only [Act.put, List.setIfInBounds_toArray, List.set_cons_zero, List.set_cons_succ]
                have hHeld := s
                refine wpAnyH_ready (rs := [9]) (by kernel_rfl) (by simp) ?_
                refine AllReadyH.cons nth9 (fun KK hKK => ?_) ?_
                · clear hHeld s
                  go_simp
                  obtain ⟨u8, JA, hu, hJ, gl, litA, gtA, lk, rk⟩ := fl.lits [v1_, v2_, -1, 501] 3 _ rfl
                  simp only [List.map_cons, List.map_nil] at hu
                  rw [← hu, ← hJ]
                  replace fl := gl
                  replace litB := lk _ _ litB
                  clear hu hJ gl lk rk
                  have s := (And.intro (And.intro fl.kb.c0 (And.intro fl.kb.c1 fl.kb.c2)) litB.1)
                  refine hKK.out _ _ s (fun hHeld => ?_)
                  clear hKK KK hHeld
                  try simp only [Act.put, List.setIfInBounds_toArray, List.set_cons_zero, List.set_cons_succ]
                  clear s
                  have s := (And.intro (And.intro (And.intro fl.kb.c0 (And.intro fl.kb.c1 fl.kb.c2)) litB.1) litA.1)
                  refine wpAnyH_strong (S' := (fun w' => ((w'.cell? ⟨K, 0, none⟩ = some (.slice a1 n1 c1) ∧ w'.cell? ⟨K, 1, none⟩ = some (.slice a2 n2 c2) ∧ w'.cell? ⟨K, 2, none⟩ = some (.slice a3 n3 c3)) ∧ (LitAt w' JB [0, 0, 1, 1, 2, 3])) ∧ (LitAt w' JA [v1_, v2_, -1, 501]))) (fun _ h => h.1) ?_
                  have hHeld := s
                  refine wpAnyH_take (i := 15) (v := ?vr1y47x15) nth15 (by kernel_rfl) (by kernel_rfl) (by kernel_rfl) (fun _ _ _ h => h) (Or.inl ⟨by rfl, ?hyr1y47x15⟩) hHeld ?_
                  case hyr1y47x15 => (intro wH hSw; (try dsimp only at hSw); go_simp; (try with_reducible rfl))
                  simp only [Act.put, List.setIfInBounds_toArray, List.set_cons_zero, List.set_cons_succ]
                  refine wpAnyH_take (i := 16) (v := .int .i64 n) nth16 (by kernel_rfl) (by kernel_rfl) (by kernel_rfl) (fun _ _ _ h => h) (Or.inl ⟨by rfl, ?hyr1y48x16⟩) hHeld ?_
                  case hyr1y48x16 => (intro wH hSw; have hc := hSw.2 ix (by simp; omega); rw [hn] at hc; clear hSw; go_simp)
                  simp only [Act.put, List.setIfInBounds_toArray, List.set_cons_zero, List.set_cons_succ]
                  refine wpAnyH_take (i := 20) (v := ?vr1y49x20) nth20 (by kernel_rfl) (by kernel_rfl) (by kernel_rfl) (fun _ _ _ h => h) (Or.inl ⟨by rfl, ?hyr1y49x20⟩) hHeld ?_
                  case hyr1y49x20 => (intro wH hSw; (try dsimp only at hSw); go_simp; (try with_reducible rfl))
                  simp only [Act.put, List.setIfInBounds_toArray, List.set_cons_zero, List.set_cons_succ]
                  refine wpAnyH_done (by kernel_rfl) ?_ _
                  clear hHeld s
                  obtain ⟨a1_, a2_, a3_, a4_, a5_, a6_⟩ := fl.kr
                  obtain ⟨b1_, b2_, b3_, b4_, b5_⟩ := fl.hs
                  go_wp2_with fail
                  exact bodyPost_ret (v := .tuple #[.agg #[.slice a1 n1 c1, .slice a2 n2 c2, .slice a3 n3 c3], .slice aj nj cj, .agg #[.int .i64 X, .int .i64 Y], .int .i64 n]) (by simp [results, Tryd.results30, go_sem, a1_, a2_, a3_, b1_, b2_]) rfl ⟨a1, n1, c1, a2, n2, c2, a3, n3, c3, l, lo, hi, aj, nj, cj, J, X, Y, n, rfl, fl.hf.base (by omega), ⟨hj1.out, by omega, hj3.out, fl.hj.base (by omega)⟩, fl.q⟩
                exact AllReadyH.nil
              exact AllReadyH.nil
            exact AllReadyH.nil
          exact AllReadyH.nil
        refine AllReadyH.cons nth12 (fun KK hKK => ?_) ?_
        · clear hHeld s
          go_simp
          go_at_call 58
          refine (pick_any R _ _ _ rd (by omega) (by omega) (by omega)).mono ?_
          rintro e u4 ⟨t_, tp, tq, rfl, r, b⟩
          replace fl := fl.beside b ⟨hh.1, by omega, hB.1, hB.2⟩
          clear b r rd
          obtain ⟨t, rfl⟩ : ∃ t : Nat, t_ = t := ⟨t_.toNat, by omega⟩
          have tl : t < 6 := by omega
          obtain ⟨ix1, ix2⟩ := follow_idx t tl
          generalize hix : (([0, 0, 1, 1, 2, 3] : List Int).getD t 0).toNat = ix at ix1 ix2
          clear hix
          have ix3 : (ix : Int) < 4 := by omega
          obtain ⟨n, hn⟩ : ∃ n, ([v1_, v2_, -1, 501] : List Int).getD ix 0 = n := ⟨_, rfl⟩
          have s := (And.intro fl.kb.c0 (And.intro fl.kb.c1 fl.kb.c2))
          refine hKK.out _ _ s (fun hHeld => ?_)
          clear hKK KK hHeld
          try simp only [Act.put, List.setIfInBounds_toArray, List.set_cons_zero, List.set_cons_succ]
          have hHeld := s
          refine wpAnyH_ready (rs := [9, 10, 17]) (by kernel_rfl) (by simp) ?_
          refine AllReadyH.cons nth9 (fun KK hKK => ?_) ?_
          · clear hHeld s
            go_simp
            obtain ⟨u5, JA, hu, hJ, gl, litA, gtA, lk, rk⟩ := fl.lits [v1_, v2_, -1, 501] 3 _ rfl
            simp only [List.map_cons, List.map_nil] at hu
            rw [← hu, ← hJ]
            replace fl := gl
            clear hu hJ gl lk rk
            have s := (And.intro fl.kb.c0 (And.intro fl.kb.c1 fl.kb.c2))
            refine hKK.out _ _ s (fun hHeld => ?_)
            clear hKK KK hHeld
            try simp only [Act.put, List.setIfInBounds_toArray, List.set_cons_zero, List.set_cons_succ]
            clear s
            have s := (And.intro (And.intro fl.kb.c0 (And.intro fl.kb.c1 fl.kb.c2)) litA.1)
            refine wpAnyH_strong (S' := (fun w' => (w'.cell? ⟨K, 0, none⟩ = some (.slice a1 n1 c1) ∧ w'.cell? ⟨K, 1, none⟩ = some (.slice a2 n2 c2) ∧ w'.cell? ⟨K, 2, none⟩ = some (.slice a3 n3 c3)) ∧ (LitAt w' JA [v1_, v2_, -1, 501]))) (fun _ h => h.1) ?_
            have hHeld := s
            refine wpAnyH_ready (rs := [10, 17]) (by kernel_rfl) (by simp) ?_
            refine AllReadyH.cons nth10 (fun KK hKK => ?_) ?_
            · clear hHeld s
              go_simp
              obtain ⟨u6, JB, hu, hJ, gl, litB, gtB, lk, rk⟩ := fl.lits [0, 0, 1, 1, 2, 3] 3 _ rfl
              simp only [List.map_cons, List.map_nil] at hu
              rw [← hu, ← hJ]
              replace fl := gl
              replace litA := lk _ _ litA
              clear hu hJ gl lk rk
              have s := (And.intro (And.intro fl.kb.c0 (And.intro fl.kb.c1 fl.kb.c2)) litA.1)
              refine hKK.out _ _ s (fun hHeld => ?_)
              clear hKK KK hHeld
              try simp only [Act.put, List.setIfInBounds_toArray, List.set_cons_zero, List.set_cons_succ]
              clear s
              have s := (And.intro (And.intro (And.intro fl.kb.c0 (And.intro fl.kb.c1 fl.kb.c2)) litA.1) litB.1)
              refine wpAnyH_strong (S' := (fun w' => ((w'.cell? ⟨K, 0, none⟩ = some (.slice a1 n1 c1) ∧ w'.cell? ⟨K, 1, none⟩ = some (.slice a2 n2 c2) ∧ w'.cell? ⟨K, 2, none⟩ = some (.slice a3 n3 c3)) ∧ (LitAt w' JA [v1_, v2_, -1, 501])) ∧ (LitAt w' JB [0, 0, 1, 1, 2, 3]))) (fun _ h => h.1) ?_
              have hHeld := s
              refine wpAnyH_take (i := 13) (v := ?vr1y50x13) nth13 (by kernel_rfl) (by kernel_rfl) (by kernel_rfl) (fun _ _ _ h => h) (Or.inl ⟨by rfl, ?hyr1y50x13⟩) hHeld ?_
              case hyr1y50x13 => (intro wH hSw; (try dsimp only at hSw); go_simp; (try with_reducible rfl))
              simp only [Act.put, List.setIfInBounds_toArray, List.set_cons_zero, List.set_cons_succ]
              refine wpAnyH_take (i := 14) (v := .int .i64 (ix : Int)) nth14 (by kernel_rfl) (by kernel_rfl) (by kernel_rfl) (fun _ _ _ h => h) (Or.inl ⟨by rfl, ?hyr1y51x14⟩) hHeld ?_
              case hyr1y51x14 => (intro wH hSw; have hc := hSw.2 t (by simp; omega); rw [ix1] at hc; clear hSw; go_simp)
              simp only [Act.put, List.setIfInBounds_toArray, List.set_cons_zero, List.set_cons_succ]
              refine wpAnyH_take (i := 15) (v := ?vr1y52x15) nth15 (by kernel_rfl) (by kernel_rfl) (by kernel_rfl) (fun _ _ _ h => h) (Or.inl ⟨by rfl, ?hyr1y52x15⟩) hHeld ?_
              case hyr1y52x15 => (intro wH hSw; (try dsimp only at hSw); go_simp; (try with_reducible rfl))
              simp only [Act.put, List.setIfInBounds_toArray, List.set_cons_zero, List.set_cons_succ]
              refine wpAnyH_take (i := 16) (v := .int .i64 n) nth16 (by kernel_rfl) (by kernel_rfl) (by kernel_rfl) (fun _ _ _ h => h) (Or.inl ⟨by rfl, ?hyr1y53x16⟩) hHeld ?_
              case hyr1y53x16 => (intro wH hSw; have hc := hSw.1.2 ix (by simp; omega); rw [hn] at hc; clear hSw; go_simp)
              simp only [Act.put, List.setIfInBounds_toArray, List.set_cons_zero, List.set_cons_succ]
              refine wpAnyH_ready (rs := [17]) (by kernel_rfl) (by simp) ?_
              refine AllReadyH.cons nth17 (fun KK hKK => ?_) ?_
              · clear hHeld s
                obtain ⟨a1_, a2_, a3_, a4_, a5_, a6_⟩ := fl.kr
                replace hn := Lib.hid hn
                replace ix1 := Lib.hid ix1
                go_simp
                replace hn := hn.out
                replace ix1 := ix1.out
                clear a1_ a2_ a3_ a4_ a5_ a6_
                obtain ⟨u7, hu, gl, lk⟩ := fl.store1
                rw [← hu]
                replace fl := gl
                replace litA := lk _ _ (by omega) litA
                replace litB := lk _ _ (by omega) litB
                clear hu gl lk
                have s := (And.intro (And.intro (And.intro fl.kb.c0 (And.intro fl.kb.c1 fl.kb.c2)) litA.1) litB.1)
                refine hKK.out _ _ s (fun hHeld => ?_)
                clear hKK KK hHeld
                try simp only [Act.put, List.setIfInBounds_toArray, List.set_cons_zero, List.set_cons_succ]
                have hHeld := s
                refine wpAnyH_take (i := 18) (v := ?vr1y54x18) nth18 (by kernel_rfl) (by kernel_rfl) (by kernel_rfl) (fun _ _ _ h => h) (Or.inl ⟨by rfl, ?hyr1y54x18⟩) hHeld ?_
                case hyr1y54x18 => (intro wH hSw; (try dsimp only at hSw); go_simp; (try with_reducible rfl))
                simp only [Act.put, List.setIfInBounds_toArray, List.set_cons_zero, List.set_cons_succ]
                refine wpAnyH_ready (rs := [19]) (by kernel_rfl) (by simp) ?_
                refine AllReadyH.cons nth19 (fun KK hKK => ?_) ?_
                · clear hHeld s
                  obtain ⟨a1_, a2_, a3_, a4_, a5_⟩ := fl.hs
                  replace hn := Lib.hid hn
                  replace ix1 := Lib.hid ix1
                  go_simp
                  replace hn := hn.out
                  replace ix1 := ix1.out
                  clear a1_ a2_ a3_ a4_ a5_
                  obtain ⟨u8, hu, gl, lk⟩ := fl.store2 X Y
                  rw [← hu]
                  replace fl := gl
                  replace litA := lk _ _ (by omega) litA
                  replace litB := lk _ _ (by omega) litB
                  clear hu gl lk
                  have s := (And.intro (And.intro (And.intro fl.kb.c0 (And.intro fl.kb.c1 fl.kb.c2)) litA.1) litB.1)
                  refine hKK.out _ _ s (fun hHeld => ?_)
                  clear hKK KK hHeld
                  try simp only [Act.put, List.setIfInBounds_toArray, List.set_cons_zero, List.set_cons_succ]
                  have hHeld := s
                  refine wpAnyH_take (i := 20) (v := ?vr1y55x20) nth20 (by kernel_rfl) (by kernel_rfl) (by kernel_rfl) (fun _ _ _ h => h) (Or.inl ⟨by rfl, ?hyr1y55x20⟩) hHeld ?_
                  case hyr1y55x20 => (intro wH hSw; (try dsimp only at hSw); go_simp; (try with_reducible rfl))
                  simp only [Act.put, List.setIfInBounds_toArray, List.set_cons_zero, List.set_cons_succ]
                  refine wpAnyH_done (by kernel_rfl) ?_ _
                  clear hHeld s
                  obtain ⟨a1_, a2_, a3_, a4_, a5_, a6_⟩ := fl.kr
                  obtain ⟨b1_, b2_, b3_, b4_, b5_⟩ := fl.hs
                  go_wp2_with fail
                  exact bodyPost_ret (v := .tuple #[.agg #[.slice a1 n1 c1, .slice a2 n2 c2, .slice a3 n3 c3], .slice aj nj cj, .agg #[.int .i64 X, .int .i64 Y], .int .i64 n]) (by simp [results, Tryd.results30, go_sem, a1_, a2_, a3_, b1_, b2_]) rfl ⟨a1, n1, c1, a2, n2, c2, a3, n3, c3, l, lo, hi, aj, nj, cj, J, X, Y, n, rfl, fl.hf.base (by omega), ⟨hj1.out, by omega, hj3.out, fl.hj.base (by omega)⟩, fl.q⟩
                exact AllReadyH.nil
              exact AllReadyH.nil
            refine AllReadyH.cons nth17 (fun KK hKK => ?_) ?_
            · clear hHeld s
              obtain ⟨a1_, a2_, a3_, a4_, a5_, a6_⟩ := fl.kr
              replace hn := Lib.hid hn
              replace ix1 := Lib.hid ix1
              go_simp
              replace hn := hn.out
              replace ix1 := ix1.out
              clear a1_ a2_ a3_ a4_ a5_ a6_
              obtain ⟨u6, hu, gl, lk⟩ := fl.store1
              rw [← hu]
              replace fl := gl
              replace litA := lk _ _ (by omega) litA
              clear hu gl lk
              have s := (And.intro (And.intro fl.kb.c0 (And.intro fl.kb.c1 fl.kb.c2)) litA.1)
              refine hKK.out _ _ s (fun hHeld => ?_)
              clear hKK KK hHeld
              try simp only [Act.put, List.setIfInBounds_toArray, List.set_cons_zero, List.set_cons_succ]
              have hHeld := s
              refine wpAnyH_take (i := 18) (v := ?vr1y56x18) nth18 (by kernel_rfl) (by kernel_rfl) (by kernel_rfl) (fun _ _ _ h => h) (Or.inl ⟨by rfl, ?hyr1y56x18⟩) hHeld ?_
              case hyr1y56x18 => (intro wH hSw; (try dsimp only at hSw); go_simp; (try with_reducible rfl))
              simp only [Act.put, List.setIfInBounds_toArray, List.set_cons_zero, List.set_cons_succ]
              refine wpAnyH_ready (rs := [10, 19]) (by kernel_rfl) (by simp) ?_
              refine AllReadyH.cons nth10 (fun KK hKK => ?_) ?_
              · clear hHeld s
                go_simp
                obtain ⟨u7, JB, hu, hJ, gl, litB, gtB, lk, rk⟩ := fl.lits [0, 0, 1, 1, 2, 3] 3 _ rfl
                simp only [List.map_cons, List.map_nil] at hu
                rw [← hu, ← hJ]
                replace fl := gl
                replace litA := lk _ _ litA
                clear hu hJ gl lk rk
                have s := (And.intro (And.intro fl.kb.c0 (And.intro fl.kb.c1 fl.kb.c2)) litA.1)
                refine hKK.out _ _ s (fun hHeld => ?_)
                clear hKK KK hHeld
                try simp only [Act.put, List.setIfInBounds_toArray, List.set_cons_zero, List.set_cons_succ]
                clear s
                have s := (And.intro (And.intro (And.intro fl.kb.c0 (And.intro fl.kb.c1 fl.kb.c2)) litA.1) litB.1)
                refine wpAnyH_strong (S' := (fun w' => ((w'.cell? ⟨K, 0, none⟩ = some (.slice a1 n1 c1) ∧ w'.cell? ⟨K, 1, none⟩ = some (.slice a2 n2 c2) ∧ w'.cell? ⟨K, 2, none⟩ = some (.slice a3 n3 c3)) ∧ (LitAt w' JA [v1_, v2_, -1, 501])) ∧ (LitAt w' JB [0, 0, 1, 1, 2, 3]))) (fun _ h => h.1) ?_
                have hHeld := s
                refine wpAnyH_take (i := 13) (v := ?vr1y57x13) nth13 (by kernel_rfl) (by kernel_rfl) (by kernel_rfl) (fun _ _ _ h => h) (Or.inl ⟨by rfl, ?hyr1y57x13⟩) hHeld ?_
                case hyr1y57x13 => (intro wH hSw; (try dsimp only at hSw); go_simp; (try with_reducible rfl))
                simp only [Act.put, List.setIfInBounds_toArray, List.set_cons_zero, List.set_cons_succ]
                refine wpAnyH_take (i := 14) (v := .int .i64 (ix : Int)) nth14 (by kernel_rfl) (by kernel_rfl) (by kernel_rfl) (fun _ _ _ h => h) (Or.inl ⟨by rfl, ?hyr1y58x14⟩) hHeld ?_
                case hyr1y58x14 => (intro wH hSw; have hc := hSw.2 t (by simp; omega); rw [ix1] at hc; clear hSw; go_simp)
                simp only [Act.put, List.setIfInBounds_toArray, List.set_cons_zero, List.set_cons_succ]
                refine wpAnyH_take (i := 15) (v := ?vr1y59x15) nth15 (by kernel_rfl) (by kernel_rfl) (by kernel_rfl) (fun _ _ _ h => h) (Or.inl ⟨by rfl, ?hyr1y59x15⟩) hHeld ?_
                case hyr1y59x15 => (intro wH hSw; (try dsimp only at hSw); go_simp; (try with_reducible rfl))
                simp only [Act.put, List.setIfInBounds_toArray, List.set_cons_zero, List.set_cons_succ]
                refine wpAnyH_take (i := 16) (v := .int .i64 n) nth16 (by kernel_rfl) (by kernel_rfl) (by kernel_rfl) (fun _ _ _ h => h) (Or.inl ⟨by rfl, ?hyr1y60x16⟩) hHeld ?_
                case hyr1y60x16 => (intro wH hSw; have hc := hSw.1.2 ix (by simp; omega); rw [hn] at hc; clear hSw; go_simp)
                simp only [Act.put, List.setIfInBounds_toArray, List.set_cons_zero, List.set_cons_succ]
                refine wpAnyH_ready (rs := [19]) (by kernel_rfl) (by simp) ?_
                refine AllReadyH.cons nth19 (fun KK hKK => ?_) ?_
                · clear hHeld s
                  obtain ⟨a1_, a2_, a3_, a4_, a5_⟩ := fl.hs
                  replace hn := Lib.hid hn
                  replace ix1 := Lib.hid ix1
                  go_simp
                  replace hn := hn.out
                  replace ix1 := ix1.out
                  clear a1_ a2_ a3_ a4_ a5_
                  obtain ⟨u8, hu, gl, lk⟩ := fl.store2 X Y
                  rw [← hu]
                  replace fl := gl
                  replace litA := lk _ _ (by omega) litA
                  replace litB := lk _ _ (by omega) litB
                  clear hu gl lk
                  have s := (And.intro (And.intro (And.intro fl.kb.c0 (And.intro fl.kb.c1 fl.kb.c2)) litA.1) litB.1)
                  refine hKK.out _ _ s (fun hHeld => ?_)
                  clear hKK KK hHeld
                  try simp only [Act.put, List.setIfInBounds_toArray, List.set_cons_zero, List.set_cons_succ]
                  have hHeld := s
                  refine wpAnyH_take (i := 20) (v := ?vr1y61x20) nth20 (by kernel_rfl) (by kernel_rfl) (by kernel_rfl) (fun _ _ _ h => h) (Or.inl ⟨by rfl, ?hyr1y61x20⟩) hHeld ?_
                  case hyr1y61x20 => (intro wH hSw; (try dsimp only at hSw); go_simp; (try with_reducible rfl))
                  simp only [Act.put, List.setIfInBounds_toArray, List.set_cons_zero, List.set_cons_succ]
                  refine wpAnyH_done (by kernel_rfl) ?_ _
                  clear hHeld s
                  obtain ⟨a1_, a2_, a3_, a4_, a5_, a6_⟩ := fl.kr
                  obtain ⟨b1_, b2_, b3_, b4_, b5_⟩ := fl.hs
                  go_wp2_with fail
                  exact bodyPost_ret (v := .tuple #[.agg #[.slice a1 n1 c1, .slice a2 n2 c2, .slice a3 n3 c3], .slice aj nj cj, .agg #[.int .i64 X, .int .i64 Y], .int .i64 n]) (by simp [results, Tryd.results30, go_sem, a1_, a2_, a3_, b1_, b2_]) rfl ⟨a1, n1, c1, a2, n2, c2, a3, n3, c3, l, lo, hi, aj, nj, cj, J, X, Y, n, rfl, fl.hf.base (by omega), ⟨hj1.out, by omega, hj3.out, fl.hj.base (by omega)⟩, fl.q⟩
                exact AllReadyH.nil
              refine AllReadyH.cons nth19 (fun KK hKK => ?_) ?_
              · clear hHeld s
                obtain ⟨a1_, a2_, a3_, a4_, a5_⟩ := fl.hs
                replace hn := Lib.hid hn
                replace ix1 := Lib.hid ix1
                go_simp
                replace hn := hn.out
                replace ix1 := ix1.out
                clear a1_ a2_ a3_ a4_ a5_
                obtain ⟨u7, hu, gl, lk⟩ := fl.store2 X Y
                rw [← hu]
                replace fl := gl
                replace litA := lk _ _ (by omega) litA
                clear hu gl lk
                have s := (And.intro (And.intro fl.kb.c0 (And.intro fl.kb.c1 fl.kb.c2)) litA.1)
                refine hKK.out _ _ s (fun hHeld => ?_)
                clear hKK KK hHeld
                try simp only [Act.put, List.setIfInBounds_toArray, List.set_cons_zero, List.set_cons_succ]
                have hHeld := s
                refine wpAnyH_ready (rs := [10]) (by kernel_rfl) (by simp) ?_
                refine AllReadyH.cons nth10 (fun KK hKK => ?_) ?_
                · clear hHeld s
                  go_simp
                  obtain ⟨u8, JB, hu, hJ, gl, litB, gtB, lk, rk⟩ := fl.lits [0, 0, 1, 1, 2, 3] 3 _ rfl
                  simp only [List.map_cons, List.map_nil] at hu
                  rw [← hu, ← hJ]
                  replace fl := gl
                  replace litA := lk _ _ litA
                  clear hu hJ gl lk rk
                  have s := (And.intro (And.intro fl.kb.c0 (And.intro fl.kb.c1 fl.kb.c2)) litA.1)
                  refine hKK.out _ _ s (fun hHeld => ?_)
                  clear hKK KK hHeld
                  try simp only [Act.put, List.setIfInBounds_toArray, List.set_cons_zero, List.set_cons_succ]
                  clear s
                  have s := (And.intro (And.intro (And.intro fl.kb.c0 (And.intro fl.kb.c1 fl.kb.c2)) litA.1) litB.1)
                  refine wpAnyH_strong (S' := (fun w' => ((w'.cell? ⟨K, 0, none⟩ = some (.slice a1 n1 c1) ∧ w'.cell? ⟨K, 1, none⟩ = some (.slice a2 n2 c2) ∧ w'.cell? ⟨K, 2, none⟩ = some (.slice a3 n3 c3)) ∧ (LitAt w' JA [v1_, v2_, -1, 501])) ∧ (LitAt w' JB [0, 0, 1, 1, 2, 3]))) (fun _ h => h.1) ?_
                  have hHeld := s
                  refine wpAnyH_take (i := 13) (v := ?vr1y62x13) nth13 (by kernel_rfl) (by kernel_rfl) (by kernel_rfl) (fun _ _ _ h => h) (Or.inl ⟨by rfl, ?hyr1y62x13⟩) hHeld ?_
                  case hyr1y62x13 => (intro wH hSw; (try dsimp only at hSw); go_simp; (try with_reducible rfl))
                  simp only [Act.put, List.setIfInBounds_toArray, List.set_cons_zero, List.set_cons_succ]
                  refine wpAnyH_take (i := 14) (v := .int .i64 (ix : Int)) nth14 (by kernel_rfl) (by kernel_rfl) (by kernel_rfl) (fun _ _ _ h => h) (Or.inl ⟨by rfl, ?hyr1y63x14⟩) hHeld ?_
                  case hyr1y63x14 => (intro wH hSw; have hc := hSw.2 t (by simp; omega); rw [ix1] at hc; clear hSw; go_simp)
                  simp only [Act.put, List.setIfInBounds_toArray, List.set_cons_zero, List.set_cons_succ]
                  refine wpAnyH_take (i := 15) (v := ?vr1y64x15) nth15 (by kernel_rfl) (by kernel_rfl) (by kernel_rfl) (fun _ _ _ h => h) (Or.inl ⟨by rfl, ?hyr1y64x15⟩) hHeld ?_
                  case hyr1y64x15 => (intro wH hSw; (try dsimp only at hSw); go_simp; (try with_reducible rfl))
                  simp only [Act.put, List.setIfInBounds_toArray, List.set_cons_zero, List.set_cons_succ]
                  refine wpAnyH_take (i := 16) (v := .int .i64 n) nth16 (by kernel_rfl) (by kernel_rfl) (by kernel_rfl) (fun _ _ _ h => h) (Or.inl ⟨by rfl, ?hyr1y65x16⟩) hHeld ?_
                  case hyr1y65x16 => (intro wH hSw; have hc := hSw.1.2 ix (by simp; omega); rw [hn] at hc; clear hSw; go_simp)
                  simp only [Act.put, List.setIfInBounds_toArray, List.set_cons_zero, List.set_cons_succ]
                  refine wpAnyH_take (i := 20) (v := ?vr1y66x20) nth20 (by kernel_rfl) (by kernel_rfl) (by kernel_rfl) (fun _ _ _ h => h) (Or.inl ⟨by rfl, ?hyr1y66x20⟩) hHeld ?_
                  case hyr1y66x20 => (intro wH hSw; (try dsimp only at hSw); go_simp; (try with_reducible rfl))
                  simp only [Act.put, List.setIfInBounds_toArray, List.set_cons_zero, List.set_cons_succ]
                  refine wpAnyH_done (by kernel_rfl) ?_ _
                  clear hHeld s
                  obtain ⟨a1_, a2_, a3_, a4_, a5_, a6_⟩ := fl.kr
                  obtain ⟨b1_, b2_, b3_, b4_, b5_⟩ := fl.hs
                  go_wp2_with fail
                  exact bodyPost_ret (v := .tuple #[.agg #[.slice a1 n1 c1, .slice a2 n2 c2, .slice a3 n3 c3], .slice aj nj cj, .agg #[.int .i64 X, .int .i64 Y], .int .i64 n]) (by simp [results, Tryd.results30, go_sem, a1_, a2_, a3_, b1_, b2_]) rfl ⟨a1, n1, c1, a2, n2, c2, a3, n3, c3, l, lo, hi, aj, nj, cj, J, X, Y, n, rfl, fl.hf.base (by omega), ⟨hj1.out, by omega, hj3.out, fl.hj.base (by omega)⟩, fl.q⟩
                exact AllReadyH.nil
              exact AllReadyH.nil
            exact AllReadyH.nil
          refine AllReadyH.cons nth10 (fun KK hKK => ?_) ?_
          · clear hHeld s
            go_simp
            obtain ⟨u5, JB, hu, hJ, gl, litB, gtB, lk, rk⟩ := fl.lits [0, 0, 1, 1, 2, 3] 3 _ rfl
            simp only [List.map_cons, List.map_nil] at hu
            rw [← hu, ← hJ]
            replace fl := gl
            clear hu hJ gl lk rk
            have s := (And.intro fl.kb.c0 (And.intro fl.kb.c1 fl.kb.c2))
            refine hKK.out _ _ s (fun hHeld => ?_)
            clear hKK KK hHeld
            try simp only [Act.put, List.setIfInBounds_toArray, List.set_cons_zero, List.set_cons_succ]
            clear s
            have s := (And.intro (And.intro fl.kb.c0 (And.intro fl.kb.c1 fl.kb.c2)) litB.1)
            refine wpAnyH_strong (S' := (fun w' => (w'.cell? ⟨K, 0, none⟩ = some (.slice a1 n1 c1) ∧ w'.cell? ⟨K, 1, none⟩ = some (.slice a2 n2 c2) ∧ w'.cell? ⟨K, 2, none⟩ = some (.slice a3 n3 c3)) ∧ (LitAt w' JB [0, 0, 1, 1, 2, 3]))) (fun _ h => h.1) ?_
            have hHeld := s
            refine wpAnyH_take (i := 13) (v := ?vr1y67x13) nth13 (by kernel_rfl) (by kernel_rfl) (by kernel_rfl) (fun _ _ _ h => h) (Or.inl ⟨by rfl, ?hyr1y67x13⟩) hHeld ?_
            case hyr1y67x13 => (intro wH hSw; (try dsimp only at hSw); go_simp; (try with_reducible rfl))
            simp only [Act.put, List.setIfInBounds_toArray, List.set_cons_zero, List.set_cons_succ]
            refine wpAnyH_take (i := 14) (v := .int .i64 (ix : Int)) nth14 (by kernel_rfl) (by kernel_rfl) (by kernel_rfl) (fun _ _ _ h => h) (Or.inl ⟨by rfl, ?hyr1y68x14⟩) hHeld ?_
            case hyr1y68x14 => (intro wH hSw; have hc := hSw.2 t (by simp; omega); rw [ix1] at hc; clear hSw; go_simp)
            simp only [Act.put, List.setIfInBounds_toArray, List.set_cons_zero, List.set_cons_succ]
            refine wpAnyH_ready (rs := [9, 17]) (by kernel_rfl) (by simp) ?_
            refine AllReadyH.cons nth9 (fun KK hKK => ?_) ?_
            · clear hHeld s
              go_simp
              obtain ⟨u6, JA, hu, hJ, gl, litA, gtA, lk, rk⟩ := fl.lits [v1_, v2_, -1, 501] 3 _ rfl
              simp only [List.map_cons, List.map_nil] at hu
              rw [← hu, ← hJ]
              replace fl := gl
              replace litB := lk _ _ litB
              clear hu hJ gl lk rk
              have s := (And.intro (And.intro fl.kb.c0 (And.intro fl.kb.c1 fl.kb.c2)) litB.1)
              refine hKK.out _ _ s (fun hHeld => ?_)
              clear hKK KK hHeld
              try simp only [Act.put, List.setIfInBounds_toArray, List.set_cons_zero, List.set_cons_succ]
              clear s
              have s := (And.intro (And.intro (And.intro fl.kb.c0 (And.intro fl.kb.c1 fl.kb.c2)) litB.1) litA.1)
              refine wpAnyH_strong (S' := (fun w' => ((w'.cell? ⟨K, 0, none⟩ = some (.slice a1 n1 c1) ∧ w'.cell? ⟨K, 1, none⟩ = some (.slice a2 n2 c2) ∧ w'.cell? ⟨K, 2, none⟩ = some (.slice a3 n3 c3)) ∧ (LitAt w' JB [0, 0, 1, 1, 2, 3])) ∧ (LitAt w' JA [v1_, v2_, -1, 501]))) (fun _ h => h.1) ?_
              have hHeld := s
              refine wpAnyH_take (i := 15) (v := ?vr1y69x15) nth15 (by kernel_rfl) (by kernel_rfl) (by kernel_rfl) (fun _ _ _ h => h) (Or.inl ⟨by rfl, ?hyr1y69x15⟩) hHeld ?_
              case hyr1y69x15 => (intro wH hSw; (try dsimp only at hSw); go_simp; (try with_reducible rfl))
              simp only [Act.put, List.setIfInBounds_toArray, List.set_cons_zero, List.set_cons_succ]
              refine wpAnyH_take (i := 16) (v := .int .i64 n) nth16 (by kernel_rfl) (by kernel_rfl) (by kernel_rfl) (fun _ _ _ h => h) (Or.inl ⟨by rfl, ?hyr1y70x16⟩) hHeld ?_
              case hyr1y70x16 => (intro wH hSw; have hc := hSw.2 ix (by simp; omega); rw [hn] at hc; clear hSw; go_simp)
              simp only [Act.put, List.setIfInBounds_toArray, List.set_cons_zero, List.set_cons_succ]
              refine wpAnyH_ready (rs := [17]) (by kernel_rfl) (by simp) ?_
              refine AllReadyH.cons nth17 (fun KK hKK => ?_) ?_
              · clear hHeld s
                obtain ⟨a1_, a2_, a3_, a4_, a5_, a6_⟩ := fl.kr
                replace hn := Lib.hid hn
                replace ix1 := Lib.hid ix1
                go_simp
                replace hn := hn.out
                replace ix1 := ix1.out
                clear a1_ a2_ a3_ a4_ a5_ a6_
                obtain ⟨u7, hu, gl, lk⟩ := fl.store1
                rw [← hu]
                replace fl := gl
                replace litB := lk _ _ (by omega) litB
                replace litA := lk _ _ (by omega) litA
                clear hu gl lk
                have s := (And.intro (And.intro (And.intro fl.kb.c0 (And.intro fl.kb.c1 fl.kb.c2)) litB.1) litA.1)
                refine hKK.out _ _ s (fun hHeld => ?_)
                clear hKK KK hHeld
                try simp only [Act.put, List.setIfInBounds_toArray, List.set_cons_zero, List.set_cons_succ]
                have hHeld := s
                refine wpAnyH_take (i := 18) (v := ?vr1y71x18) nth18 (by kernel_rfl) (by kernel_rfl) (by kernel_rfl) (fun _ _ _ h => h) (Or.inl ⟨by rfl, ?hyr1y71x18⟩) hHeld ?_
                case hyr1y71x18 => (intro wH hSw; (try dsimp only at hSw); go_simp; (try with_reducible rfl))
                simp only [Act.put, List.setIfInBounds_toArray, List.set_cons_zero, List.set_cons_succ]
                refine wpAnyH_ready (rs := [19]) (by kernel_rfl) (by simp) ?_
                refine AllReadyH.cons nth19 (fun KK hKK => ?_) ?_
                · clear hHeld s
                  obtain ⟨a1_, a2_, a3_, a4_, a5_⟩ := fl.hs
                  replace hn := Lib.hid hn
                  replace ix1 := Lib.hid ix1
                  go_simp
                  replace hn := hn.out
                  replace ix1 := ix1.out
                  clear a1_ a2_ a3_ a4_ a5_
                  obtain ⟨u8, hu, gl, lk⟩ := fl.store2 X Y
                  rw [← hu]
                  replace fl := gl
                  replace litB := lk _ _ (by omega) litB
                  replace litA := lk _ _ (by omega) litA
                  clear hu gl lk
                  have s := (And.intro (And.intro (And.intro fl.kb.c0 (And.intro fl.kb.c1 fl.kb.c2)) litB.1) litA.1)
                  refine hKK.out _ _ s (fun hHeld => ?_)
                  clear hKK KK hHeld
                  try simp only [Act.put, List.setIfInBounds_toArray, List.set_cons_zero, List.set_cons_succ]
                  have hHeld := s
                  refine wpAnyH_take (i := 20) (v := ?vr1y72x20) nth20 (by kernel_rfl) (by kernel_rfl) (by kernel_rfl) (fun _ _ _ h => h) (Or.inl ⟨by rfl, ?hyr1y72x20⟩) hHeld ?_
                  case hyr1y72x20 => (intro wH hSw; (try dsimp only at hSw); go_simp; (try with_reducible rfl))
                  simp only [Act.put, List.setIfInBounds_toArray, List.set_cons_zero, List.set_cons_succ]
                  refine wpAnyH_done (by kernel_rfl) ?_ _
                  clear hHeld s
                  obtain ⟨a1_, a2_, a3_, a4_, a5_, a6_⟩ := fl.kr
                  obtain ⟨b1_, b2_, b3_, b4_, b5_⟩ := fl.hs
                  go_wp2_with fail
                  exact bodyPost_ret (v := .tuple #[.agg #[.slice a1 n1 c1, .slice a2 n2 c2, .slice a3 n3 c3], .slice aj nj cj, .agg #[.int .i64 X, .int .i64 Y], .int .i64 n]) (by simp [results, Tryd.results30, go_sem, a1_, a2_, a3_, b1_, b2_]) rfl ⟨a1, n1, c1, a2, n2, c2, a3, n3, c3, l, lo, hi, aj, nj, cj, J, X, Y, n, rfl, fl.hf.base (by omega), ⟨hj1.out, by omega, hj3.out, fl.hj.base (by omega)⟩, fl.q⟩
                exact AllReadyH.nil
              exact AllReadyH.nil
            refine AllReadyH.cons nth17 (fun KK hKK => ?_) ?_
            · clear hHeld s
              obtain ⟨a1_, a2_, a3_, a4_, a5_, a6_⟩ := fl.kr
              replace hn := Lib.hid hn
              replace ix1 := Lib.hid ix1
              go_simp
              replace hn := hn.out
              replace ix1 := ix1.out
              clear a1_ a2_ a3_ a4_ a5_ a6_
              obtain ⟨u6, hu, gl, lk⟩ := fl.store1
              rw [← hu]
              replace fl := gl
              replace litB := lk _ _ (by omega) litB
              clear hu gl lk
              have s := (And.intro (And.intro fl.kb.c0 (And.intro fl.kb.c1 fl.kb.c2)) litB.1)
              refine hKK.out _ _ s (fun hHeld => ?_)
              clear hKK KK hHeld
              try simp only [Act.put, List.setIfInBounds_toArray, List.set_cons_zero, List.set_cons_succ]
              have hHeld := s
              refine wpAnyH_take (i := 18) (v := ?vr1y73x18) nth18 (by kernel_rfl) (by kernel_rfl) (by kernel_rfl) (fun _ _ _ h => h) (Or.inl ⟨by rfl, ?hyr1y73x18⟩) hHeld ?_
              case hyr1y73x18 => (intro wH hSw; (try dsimp only at hSw); go_simp; (try with_reducible rfl))
              simp only [Act.put, List.setIfInBounds_toArray, List.set_cons_zero, List.set_cons_succ]
              refine wpAnyH_ready (rs := [9, 19]) (by kernel_rfl) (by simp) ?_
              refine AllReadyH.cons nth9 (fun KK hKK => ?_) ?_
              · clear hHeld s
                go_simp
                obtain ⟨u7, JA, hu, hJ, gl, litA, gtA, lk, rk⟩ := fl.lits [v1_, v2_, -1, 501] 3 _ rfl
                simp only [List.map_cons, List.map_nil] at hu
                rw [← hu, ← hJ]
                replace fl := gl
                replace litB := lk _ _ litB
                clear hu hJ gl lk rk
                have s := (And.intro (And.intro fl.kb.c0 (And.intro fl.kb.c1 fl.kb.c2)) litB.1)
                refine hKK.out _ _ s (fun hHeld => ?_)
                clear hKK KK hHeld
                try simp only [Act.put, List.setIfInBounds_toArray, List.set_cons_zero, List.set_cons_succ]
                clear s
                have s := (And.intro (And.intro (And.intro fl.kb.c0 (And.intro fl.kb.c1 fl.kb.c2)) litB.1) litA.1)
                refine wpAnyH_strong (S' := (fun w' => ((w'.cell? ⟨K, 0, none⟩ = some (.slice a1 n1 c1) ∧ w'.cell? ⟨K, 1, none⟩ = some (.slice a2 n2 c2) ∧ w'.cell? ⟨K, 2, none⟩ = some (.slice a3 n3 c3)) ∧ (LitAt w' JB [0, 0, 1, 1, 2, 3])) ∧ (LitAt w' JA [v1_, v2_, -1, 501]))) (fun _ h => h.1) ?_
                have hHeld := s
                refine wpAnyH_take (i := 15) (v := ?vr1y74x15) nth15 (by kernel_rfl) (by kernel_rfl) (by kernel_rfl) (fun _ _ _ h => h) (Or.inl ⟨by rfl, ?hyr1y74x15⟩) hHeld ?_
                case hyr1y74x15 => (intro wH hSw; (try dsimp only at hSw); go_simp; (try with_reducible rfl))
                simp only [Act.put, List.setIfInBounds_toArray, List.set_cons_zero, List.set_cons_succ]
                refine wpAnyH_take (i := 16) (v := .int .i64 n) nth16 (by kernel_rfl) (by kernel_rfl) (by kernel_rfl) (fun _ _ _ h => h) (Or.inl ⟨by rfl, ?hyr1y75x16⟩) hHeld ?_
                case hyr1y75x16 => (intro wH hSw; have hc := hSw.2 ix (by simp; omega); rw [hn] at hc; clear hSw; go_simp)
                simp only [Act.put, List.setIfInBounds_toArray, List.set_cons_zero, List.set_cons_succ]
                refine wpAnyH_ready (rs := [19]) (by kernel_rfl) (by simp) ?_
                refine AllReadyH.cons nth19 (fun KK hKK => ?_) ?_
                · clear hHeld s
                  obtain ⟨a1_, a2_, a3_, a4_, a5_⟩ := fl.hs
                  replace hn := Lib.hid hn
                  replace ix1 := Lib.hid ix1
                  go_simp
                  replace hn := hn.out
                  replace ix1 := ix1.out
                  clear a1_ a2_ a3_ a4_ a5_
                  obtain ⟨u8, hu, gl, lk⟩ := fl.store2 X Y
                  rw [← hu]
                  replace fl := gl
                  replace litB := lk _ _ (by omega) litB
                  replace litA := lk _ _ (by omega) litA
                  clear hu gl lk
                  have s := (And.intro (And.intro (And.intro fl.kb.c0 (And.intro fl.kb.c1 fl.kb.c2)) litB.1) litA.1)
                  refine hKK.out _ _ s (fun hHeld => ?_)
                  clear hKK KK hHeld
                  try simp only [Act.put, List.setIfInBounds_toArray, List.set_cons_zero, List.set_cons_succ]
                  have hHeld := s
                  refine wpAnyH_take (i := 20) (v := ?vr1y76x20) nth20 (by kernel_rfl) (by kernel_rfl) (by kernel_rfl) (fun _ _ _ h => h) (Or.inl ⟨by rfl, ?hyr1y76x20⟩) hHeld ?_
                  case hyr1y76x20 => (intro wH hSw; (try dsimp only at hSw); go_simp; (try with_reducible rfl))
                  simp only [Act.put, List.setIfInBounds_toArray, List.set_cons_zero, List.set_cons_succ]
                  refine wpAnyH_done (by kernel_rfl) ?_ _
                  clear hHeld s
                  obtain ⟨a1_, a2_, a3_, a4_, a5_, a6_⟩ := fl.kr
                  obtain ⟨b1_, b2_, b3_, b4_, b5_⟩ := fl.hs
                  go_wp2_with fail
                  exact bodyPost_ret (v := .tuple #[.agg #[.slice a1 n1 c1, .slice a2 n2 c2, .slice a3 n3 c3], .slice aj nj cj, .agg #[.int .i64 X, .int .i64 Y], .int .i64 n]) (by simp [results, Tryd.results30, go_sem, a1_, a2_, a3_, b1_, b2_]) rfl ⟨a1, n1, c1, a2, n2, c2, a3, n3, c3, l, lo, hi, aj, nj, cj, J, X, Y, n, rfl, fl.hf.base (by omega), ⟨hj1.out, by omega, hj3.out, fl.hj.base (by omega)⟩, fl.q⟩
                exact AllReadyH.nil
              refine AllReadyH.cons nth19 (fun KK hKK => ?_) ?_
              · clear hHeld s
                obtain ⟨a1_, a2_, a3_, a4_, a5_⟩ := fl.hs
                replace hn := Lib.hid hn
                replace ix1 := Lib.hid ix1
                go_simp
                replace hn := hn.out
                replace ix1 := ix1.out
                clear a1_ a2_ a3_ a4_ a5_
                obtain ⟨u7, hu, gl, lk⟩ := fl.store2 X Y
                rw [← hu]
                replace fl := gl
                replace litB := lk _ _ (by omega) litB
                clear hu gl lk
                have s := (And.intro (And.intro fl.kb.c0 (And.intro fl.kb.c1 fl.kb.c2)) litB.1)
                refine hKK.out _ _ s (fun hHeld => ?_)
                clear hKK KK hHeld
                try simp only [Act.put, List.setIfInBounds_toArray, List.set_cons_zero, List.set_cons_succ]
                have hHeld := s
                refine wpAnyH_ready (rs := [9]) (by kernel_rfl) (by simp) ?_
                refine AllReadyH.cons nth9 (fun KK hKK => ?_) ?_
                · clear hHeld s
                  go_simp
                  obtain ⟨u8, JA, hu, hJ, gl, litA, gtA, lk, rk⟩ := fl.lits [v1_, v2_, -1, 501] 3 _ rfl
                  simp only [List.map_cons, List.map_nil] at hu
                  rw [← hu, ← hJ]
                  replace fl := gl
                  replace litB := lk _ _ litB
                  clear hu hJ gl lk rk
                  have s := (And.intro (And.intro fl.kb.c0 (And.intro fl.kb.c1 fl.kb.c2)) litB.1)
                  refine hKK.out _ _ s (fun hHeld => ?_)
                  clear hKK KK hHeld
                  try simp only [Act.put, List.setIfInBounds_toArray, List.set_cons_zero, List.set_cons_succ]
                  clear s
                  have s := (And.intro (And.intro (And.intro fl.kb.c0 (And.intro fl.kb.c1 fl.kb.c2)) litB.1) litA.1)
                  refine wpAnyH_strong (S' := (fun w' => ((w'.cell? ⟨K, 0, none⟩ = some (.slice a1 n1 c1) ∧ w'.cell? ⟨K, 1, none⟩ = some (.slice a2 n2 c2) ∧ w'.cell? ⟨K, 2, none⟩ = some (.slice a3 n3 c3)) ∧ (LitAt w' JB [0, 0, 1, 1, 2, 3])) ∧ (LitAt w' JA [v1_, v2_, -1, 501]))) (fun _ h => h.1) ?_
                  have hHeld := s
                  refine wpAnyH_take (i := 15) (v := ?vr1y77x15) nth15 (by kernel_rfl) (by kernel_rfl) (by kernel_rfl) (fun _ _ _ h => h) (Or.inl ⟨by rfl, ?hyr1y77x15⟩) hHeld ?_
                  case hyr1y77x15 => (intro wH hSw; (try dsimp only at hSw); go_simp; (try with_reducible rfl))
                  simp only [Act.put, List.setIfInBounds_toArray, List.set_cons_zero, List.set_cons_succ]
                  refine wpAnyH_take (i := 16) (v := .int .i64 n) nth16 (by kernel_rfl) (by kernel_rfl) (by kernel_rfl) (fun _ _ _ h => h) (Or.inl ⟨by rfl, ?hyr1y78x16⟩) hHeld ?_
                  case hyr1y78x16 => (intro wH hSw; have hc := hSw.2 ix (by simp; omega); rw [hn] at hc; clear hSw; go_simp)
                  simp only [Act.put, List.setIfInBounds_toArray, List.set_cons_zero, List.set_cons_succ]
                  refine wpAnyH_take (i := 20) (v := ?vr1y79x20) nth20 (by kernel_rfl) (by kernel_rfl) (by kernel_rfl) (fun _ _ _ h => h) (Or.inl ⟨by rfl, ?hyr1y79x20⟩) hHeld ?_
                  case hyr1y79x20 => (intro wH hSw; (try dsimp only at hSw); go_simp; (try with_reducible rfl))
                  simp only [Act.put, List.setIfInBounds_toArray, List.set_cons_zero, List.set_cons_succ]
                  refine wpAnyH_done (by kernel_rfl) ?_ _
                  clear hHeld s
                  obtain ⟨a1_, a2_, a3_, a4_, a5_, a6_⟩ := fl.kr
                  obtain ⟨b1_, b2_, b3_, b4_, b5_⟩ := fl.hs
                  go_wp2_with fail
                  exact bodyPost_ret (v := .tuple #[.agg #[.slice a1 n1 c1, .slice a2 n2 c2, .slice a3 n3 c3], .slice aj nj cj, .agg #[.int .i64 X, .int .i64 Y], .int .i64 n]) (by simp [results, Tryd.results30, go_sem, a1_, a2_, a3_, b1_, b2_]) rfl ⟨a1, n1, c1, a2, n2, c2, a3, n3, c3, l, lo, hi, aj, nj, cj, J, X, Y, n, rfl, fl.hf.base (by omega), ⟨hj1.out, by omega, hj3.out, fl.hj.base (by omega)⟩, fl.q⟩
                exact AllReadyH.nil
              exact AllReadyH.nil
            exact AllReadyH.nil
          refine AllReadyH.cons nth17 (fun KK hKK => ?_) ?_
          · clear hHeld s
            obtain ⟨a1_, a2_, a3_, a4_, a5_, a6_⟩ := fl.kr
            replace hn := Lib.hid hn
            replace ix1 := Lib.hid ix1
            go_simp
            replace hn := hn.out
            replace ix1 := ix1.out
            clear a1_ a2_ a3_ a4_ a5_ a6_
            obtain ⟨u5, hu, gl, lk⟩ := fl.store1
            rw [← hu]
            replace fl := gl
            clear hu gl lk
            have s := (And.intro fl.kb.c0 (And.intro fl.kb.c1 fl.kb.c2))
            refine hKK.out _ _ s (fun hHeld => ?_)
            clear hKK KK hHeld
            try simp only [Act.put, List.setIfInBounds_toArray, List.set_cons_zero, List.set_cons_succ]
            have hHeld := s
            refine wpAnyH_take (i := 18) (v := ?vr1y80x18) nth18 (by kernel_rfl) (by kernel_rfl) (by kernel_rfl) (fun _ _ _ h => h) (Or.inl ⟨by rfl, ?hyr1y80x18⟩) hHeld ?_
            case hyr1y80x18 => (intro wH hSw; (try dsimp only at hSw); go_simp; (try with_reducible rfl))
            simp only [Act.put, List.setIfInBounds_toArray, List.set_cons_zero, List.set_cons_succ]
            refine wpAnyH_ready (rs := [9, 10, 19]) (by kernel_rfl) (by simp) ?_
            refine AllReadyH.cons nth9 (fun KK hKK => ?_) ?_
            · clear hHeld s
              go_simp
              obtain ⟨u6, JA, hu, hJ, gl, litA, gtA, lk, rk⟩ := fl.lits [v1_, v2_, -1, 501] 3 _ rfl
              simp only [List.map_cons, List.map_nil] at hu
              rw [← hu, ← hJ]
              replace fl := gl
              clear hu hJ gl lk rk
              have s := (And.intro fl.kb.c0 (And.intro fl.kb.c1 fl.kb.c2))
              refine hKK.out _ _ s (fun hHeld => ?_)
              clear hKK KK hHeld
              try simp only [Act.put, List.setIfInBounds_toArray, List.set_cons_zero, List.set_cons_succ]
              clear s
              have s := (And.intro (And.intro fl.kb.c0 (And.intro fl.kb.c1 fl.kb.c2)) litA.1)
              refine wpAnyH_strong (S' := (fun w' => (w'.cell? ⟨K, 0, none⟩ = some (.slice a1 n1 c1) ∧ w'.cell? ⟨K, 1, none⟩ = some (.slice a2 n2 c2) ∧ w'.cell? ⟨K, 2, none⟩ = some (.slice a3 n3 c3)) ∧ (LitAt w' JA [v1_, v2_, -1, 501]))) (fun _ h => h.1) ?_
              have hHeld := s
              refine wpAnyH_ready (rs := [10, 19]) (by kernel_rfl) (by simp) ?_
              refine AllReadyH.cons nth10 (fun KK hKK => ?_) ?_
              · clear hHeld s
                go_simp
                obtain ⟨u7, JB, hu, hJ, gl, litB, gtB, lk, rk⟩ := fl.lits [0, 0, 1, 1, 2, 3] 3 _ rfl
                simp only [List.map_cons, List.map_nil] at hu
                rw [← hu, ← hJ]
                replace fl := gl
                replace litA := lk _ _ litA
                clear hu hJ gl lk rk
                have s := (And.intro (And.intro fl.kb.c0 (And.intro fl.kb.c1 fl.kb.c2)) litA.1)
                refine hKK.out _ _ s (fun hHeld => ?_)
                clear hKK KK hHeld
                try simp only [Act.put, List.setIfInBounds_toArray, List.set_cons_zero, List.set_cons_succ]
                clear s
                have s := (And.intro (And.intro (And.intro fl.kb.c0 (And.intro fl.kb.c1 fl.kb.c2)) litA.1) litB.1)
                refine wpAnyH_strong (S' := (fun w' => ((w'.cell? ⟨K, 0, none⟩ = some (.slice a1 n1 c1) ∧ w'.cell? ⟨K, 1, none⟩ = some (.slice a2 n2 c2) ∧ w'.cell? ⟨K, 2, none⟩ = some (.slice a3 n3 c3)) ∧ (LitAt w' JA [v1_, v2_, -1, 501])) ∧ (LitAt w' JB [0, 0, 1, 1, 2, 3]))) (fun _ h => h.1) ?_
                have hHeld := s
                refine wpAnyH_take (i := 13) (v := ?vr1y81x13) nth13 (by kernel_rfl) (by kernel_rfl) (by kernel_rfl) (fun _ _ _ h => h) (Or.inl ⟨by rfl, ?hyr1y81x13⟩) hHeld ?_
                case hyr1y81x13 => (intro wH hSw; (try dsimp only at hSw); go_simp; (try with_reducible rfl))
                simp only [Act.put, List.setIfInBounds_toArray, List.set_cons_zero, List.set_cons_succ]
                refine wpAnyH_take (i := 14) (v := .int .i64 (ix : Int)) nth14 (by kernel_rfl) (by kernel_rfl) (by kernel_rfl) (fun _ _ _ h => h) (Or.inl ⟨by rfl, ?hyr1y82x14⟩) hHeld ?_
                case hyr1y82x14 => (intro wH hSw; have hc := hSw.2 t (by simp; omega); rw [ix1] at hc; clear hSw; go_simp)
                simp only [Act.put, List.setIfInBounds_toArray, List.set_cons_zero, List.set_cons_succ]
                refine wpAnyH_take (i := 15) (v := ?vr1y83x15) nth15 (by kernel_rfl) (by kernel_rfl) (by kernel_rfl) (fun _ _ _ h => h) (Or.inl ⟨by rfl, ?hyr1y83x15⟩) hHeld ?_
                case hyr1y83x15 => (intro wH hSw; (try dsimp only at hSw); go_simp; (try with_reducible rfl))
                simp only [Act.put, List.setIfInBounds_toArray, List.set_cons_zero, List.set_cons_succ]
                refine wpAnyH_take (i := 16) (v := .int .i64 n) nth16 (by kernel_rfl) (by kernel_rfl) (by kernel_rfl) (fun _ _ _ h => h) (Or.inl ⟨by rfl, ?hyr1y84x16⟩) hHeld ?_
                case hyr1y84x16 => (intro wH hSw; have hc := hSw.1.2 ix (by simp; omega); rw [hn] at hc; clear hSw; go_simp)
                simp only [Act.put, List.setIfInBounds_toArray, List.set_cons_zero, List.set_cons_succ]
                refine wpAnyH_ready (rs := [19]) (by kernel_rfl) (by simp) ?_
                refine AllReadyH.cons nth19 (fun KK hKK => ?_) ?_
                · clear hHeld s
                  obtain ⟨a1_, a2_, a3_, a4_, a5_⟩ := fl.hs
                  replace hn := Lib.hid hn
                  replace ix1 := Lib.hid ix1
                  go_simp
                  replace hn := hn.out
                  replace ix1 := ix1.out
                  clear a1_ a2_ a3_ a4_ a5_
                  obtain ⟨u8, hu, gl, lk⟩ := fl.store2 X Y
                  rw [← hu]
                  replace fl := gl
                  replace litA := lk _ _ (by omega) litA
                  replace litB := lk _ _ (by omega) litB
                  clear hu gl lk
                  have s := (And.intro (And.intro (And.intro fl.kb.c0 (And.intro fl.kb.c1 fl.kb.c2)) litA.1) litB.1)
                  refine hKK.out _ _ s (fun hHeld => ?_)
                  clear hKK KK hHeld
                  try simp only [Act.put, List.setIfInBounds_toArray, List.set_cons_zero, List.set_cons_succ]
                  have hHeld := s
                  refine wpAnyH_take (i := 20) (v := ?vr1y85x20) nth20 (by kernel_rfl) (by kernel_rfl) (by kernel_rfl) (fun _ _ _ h => h) (Or.inl ⟨by rfl, ?hyr1y85x20⟩) hHeld ?_
                  case hyr1y85x20 => (intro wH hSw; (try dsimp only at hSw); go_simp; (try with_reducible rfl))
                  simp only [Act.put, List.setIfInBounds_toArray, List.set_cons_zero, List.set_cons_succ]
                  refine wpAnyH_done (by kernel_rfl) ?_ _
                  clear hHeld s
                  obtain ⟨a1_, a2_, a3_, a4_, a5_, a6_⟩ := fl.kr
                  obtain ⟨b1_, b2_, b3_, b4_, b5_⟩ := fl.hs
                  go_wp2_with fail
                  exact bodyPost_ret (v := .tuple #[.agg #[.slice a1 n1 c1, .slice a2 n2 c2, .slice a3 n3 c3], .slice aj nj cj, .agg #[.int .i64 X, .int .i64 Y], .int .i64 n]) (by simp [results, Tryd.results30, go_sem, a1_, a2_, a3_, b1_, b2_]) rfl ⟨a1, n1, c1, a2, n2, c2, a3, n3, c3, l, lo, hi, aj, nj, cj, J, X, Y, n, rfl, fl.hf.base (by omega), ⟨hj1.out, by omega, hj3.out, fl.hj.base (by omega)⟩, fl.q⟩
                exact AllReadyH.nil
              refine AllReadyH.cons nth19 (fun KK hKK => ?_) ?_
              · clear hHeld s
                obtain ⟨a1_, a2_, a3_, a4_, a5_⟩ := fl.hs
                replace hn := Lib.hid hn
                replace ix1 := Lib.hid ix1
                go_simp
                replace hn := hn.out
                replace ix1 := ix1.out
                clear a1_ a2_ a3_ a4_ a5_
                obtain ⟨u7, hu, gl, lk⟩ := fl.store2 X Y
                rw [← hu]
                replace fl := gl
                replace litA := lk _ _ (by omega) litA
                clear hu gl lk
                have s := (And.intro (And.intro fl.kb.c0 (And.intro fl.kb.c1 fl.kb.c2)) litA.1)
                refine hKK.out _ _ s (fun hHeld => ?_)
                clear hKK KK hHeld
                try simp only [Act.put, List.setIfInBounds_toArray, List.set_cons_zero, List.set_cons_succ]
                have hHeld := s
                refine wpAnyH_ready (rs := [10]) (by kernel_rfl) (by simp) ?_
                refine AllReadyH.cons nth10 (fun KK hKK => ?_) ?_
                · clear hHeld s
                  go_simp
                  obtain ⟨u8, JB, hu, hJ, gl, litB, gtB, lk, rk⟩ := fl.lits [0, 0, 1, 1, 2, 3] 3 _ rfl
                  simp only [List.map_cons, List.map_nil] at hu
                  rw [← hu, ← hJ]
                  replace fl := gl
                  replace litA := lk _ _ litA
                  clear hu hJ gl lk rk
                  have s := (And.intro (And.intro fl.kb.c0 (And.intro fl.kb.c1 fl.kb.c2)) litA.1)
                  refine hKK.out _ _ s (fun hHeld => ?_)
                  clear hKK KK hHeld
                  try simp only [Act.put, List.setIfInBounds_toArray, List.set_cons_zero, List.set_cons_succ]
                  clear s
                  have s := (And.intro (And.intro (And.intro fl.kb.c0 (And.intro fl.kb.c1 fl.kb.c2)) litA.1) litB.1)
                  refine wpAnyH_strong (S' := (fun w' => ((w'.cell? ⟨K, 0, none⟩ = some (.slice a1 n1 c1) ∧ w'.cell? ⟨K, 1, none⟩ = some (.slice a2 n2 c2) ∧ w'.cell? ⟨K, 2, none⟩ = some (.slice a3 n3 c3)) ∧ (LitAt w' JA [v1_, v2_, -1, 501])) ∧ (LitAt w' JB [0, 0, 1, 1, 2, 3]))) (fun _ h => h.1) ?_
                  have hHeld := s
                  refine wpAnyH_take (i := 13) (v := ?vr1y86x13) nth13 (by kernel_rfl) (by kernel_rfl) (by kernel_rfl) (fun _ _ _ h => h) (Or.inl ⟨by rfl, ?hyr1y86x13⟩) hHeld ?_
                  case hyr1y86x13 => (intro wH hSw; (try dsimp only at hSw); go_simp; (try with_reducible rfl))
                  simp only [Act.put, List.setIfInBounds_toArray, List.set_cons_zero, List.set_cons_succ]
                  refine wpAnyH_take (i := 14) (v := .int .i64 (ix : Int)) nth14 (by kernel_rfl) (by kernel_rfl) (by kernel_rfl) (fun _ _ _ h => h) (Or.inl ⟨by rfl, ?hyr1y87x14⟩) hHeld ?_
                  case hyr1y87x14 => (intro wH hSw; have hc := hSw.2 t (by simp; omega); rw [ix1] at hc; clear hSw; go_simp)
                  simp only [Act.put, List.setIfInBounds_toArray, List.set_cons_zero, List.set_cons_succ]
                  refine wpAnyH_take (i := 15) (v := ?vr1y88x15) nth15 (by kernel_rfl) (by kernel_rfl) (by kernel_rfl) (fun _ _ _ h => h) (Or.inl ⟨by rfl, ?hyr1y88x15⟩) hHeld ?_
                  case hyr1y88x15 => (intro wH hSw; (try dsimp only at hSw); go_simp; (try with_reducible rfl))
                  simp only [Act.put, List.setIfInBounds_toArray, List.set_cons_zero, List.set_cons_succ]
                  refine wpAnyH_take (i := 16) (v := .int .i64 n) nth16 (by kernel_rfl) (by kernel_rfl) (by kernel_rfl) (fun _ _ _ h => h) (Or.inl ⟨by rfl, ?hyr1y89x16⟩) hHeld ?_
                  case hyr1y89x16 => (intro wH hSw; have hc := hSw.1.2 ix (by simp; omega); rw [hn] at hc; clear hSw; go_simp)
                  simp only [Act.put, List.setIfInBounds_toArray, List.set_cons_zero, List.set_cons_succ]
                  refine wpAnyH_take (i := 20) (v := ?vr1y90x20) nth20 (by kernel_rfl) (by kernel_rfl) (by kernel_rfl) (fun _ _ _ h => h) (Or.inl ⟨by rfl, ?hyr1y90x20⟩) hHeld ?_
                  case hyr1y90x20 => (intro wH hSw; (try dsimp only at hSw); go_simp; (try with_reducible rfl))
                  simp only [Act.put, List.setIfInBounds_toArray, List.set_cons_zero, List.set_cons_succ]
                  refine wpAnyH_done (by kernel_rfl) ?_ _
                  clear hHeld s
                  obtain ⟨a1_, a2_, a3_, a4_, a5_, a6_⟩ := fl.kr
                  obtain ⟨b1_, b2_, b3_, b4_, b5_⟩ := fl.hs
                  go_wp2_with fail
                  exact bodyPost_ret (v := .tuple #[.agg #[.slice a1 n1 c1, .slice a2 n2 c2, .slice a3 n3 c3], .slice aj nj cj, .agg #[.int .i64 X, .int .i64 Y], .int .i64 n]) (by simp [results, Tryd.results30, go_sem, a1_, a2_, a3_, b1_, b2_]) rfl ⟨a1, n1, c1, a2, n2, c2, a3, n3, c3, l, lo, hi, aj, nj, cj, J, X, Y, n, rfl, fl.hf.base (by omega), ⟨hj1.out, by omega, hj3.out, fl.hj.base (by omega)⟩, fl.q⟩
                exact AllReadyH.nil
              exact AllReadyH.nil
            refine AllReadyH.cons nth10 (fun KK hKK => ?_) ?_
            · clear hHeld s
              go_simp
              obtain ⟨u6, JB, hu, hJ, gl, litB, gtB, lk, rk⟩ := fl.lits [0, 0, 1, 1, 2, 3] 3 _ rfl
              simp only [List.map_cons, List.map_nil] at hu
              rw [← hu, ← hJ]
              replace fl := gl
              clear hu hJ gl lk rk
              have s := (And.intro fl.kb.c0 (And.intro fl.kb.c1 fl.kb.c2))
              refine hKK.out _ _ s (fun hHeld => ?_)
              clear hKK KK hHeld
              try simp only [Act.put, List.setIfInBounds_toArray, List.set_cons_zero, List.set_cons_succ]
              clear s
              have s := (And.intro (And.intro fl.kb.c0 (And.intro fl.kb.c1 fl.kb.c2)) litB.1)
              refine wpAnyH_strong (S' := (fun w' => (w'.cell? ⟨K, 0, none⟩ = some (.slice a1 n1 c1) ∧ w'.cell? ⟨K, 1, none⟩ = some (.slice a2 n2 c2) ∧ w'.cell? ⟨K, 2, none⟩ = some (.slice a3 n3 c3)) ∧ (LitAt w' JB [0, 0, 1, 1, 2, 3]))) (fun _ h => h.1) ?_
              have hHeld := s
              refine wpAnyH_take (i := 13) (v := ?vr1y91x13) nth13 (by kernel_rfl) (by kernel_rfl) (by kernel_rfl) (fun _ _ _ h => h) (Or.inl ⟨by rfl, ?hyr1y91x13⟩) hHeld ?_
              case hyr1y91x13 => (intro wH hSw; (try dsimp only at hSw); go_simp; (try with_reducible rfl))
              simp only [Act.put, List.setIfInBounds_toArray, List.set_cons_zero, List.set_cons_succ]
              refine wpAnyH_take (i := 14) (v := .int .i64 (ix : Int)) nth14 (by kernel_rfl) (by kernel_rfl) (by kernel_rfl) (fun _ _ _ h => h) (Or.inl ⟨by rfl, ?hyr1y92x14⟩) hHeld ?_
              case hyr1y92x14 => (intro wH hSw; have hc := hSw.2 t (by simp; omega); rw [ix1] at hc; clear hSw; go_simp)
              simp only [Act.put, List.setIfInBounds_toArray, List.set_cons_zero, List.set_cons_succ]
              refine wpAnyH_ready (rs := [9, 19]) (by kernel_rfl) (by simp) ?_
              refine AllReadyH.cons nth9 (fun KK hKK => ?_) ?_
              · clear hHeld s
                go_simp
                obtain ⟨u7, JA, hu, hJ, gl, litA, gtA, lk, rk⟩ := fl.lits [v1_, v2_, -1, 501] 3 _ rfl
                simp only [List.map_cons, List.map_nil] at hu
                rw [← hu, ← hJ]
                replace fl := gl
                replace litB := lk _ _ litB
                clear hu hJ gl lk rk
                have s := (And.intro (And.intro fl.kb.c0 (And.intro fl.kb.c1 fl.kb.c2)) litB.1)
                refine hKK.out _ _ s (fun hHeld => ?_)
                clear hKK KK hHeld
                try simp only [Act.put, List.setIfInBounds_toArray, List.set_cons_zero, List.set_cons_succ]
                clear s
                have s := (And.intro (And.intro (And.intro fl.kb.c0 (And.intro fl.kb.c1 fl.kb.c2)) litB.1) litA.1)
                refine wpAnyH_strong (S' := (fun w' => ((w'.cell? ⟨K, 0, none⟩ = some (.slice a1 n1 c1) ∧ w'.cell? ⟨K, 1, none⟩ = some (.slice a2 n2 c2) ∧ w'.cell? ⟨K, 2, none⟩ = some (.slice a3 n3 c3)) ∧ (LitAt w' JB [0, 0, 1, 1, 2, 3])) ∧ (LitAt w' JA [v1_, v2_, -1, 501]))) (fun _ h => h.1) ?_
                have hHeld := s
                refine wpAnyH_take (i := 15) (v := ?vr1y93x15) nth15 (by kernel_rfl) (by kernel_rfl) (by kernel_rfl) (fun _ _ _ h => h) (Or.inl ⟨by rfl, ?hyr1y93x15⟩) hHeld ?_
                case hyr1y93x15 => (intro wH hSw; (try dsimp only at hSw); go_simp; (try with_reducible rfl))
                simp only [Act.put, List.setIfInBounds_toArray, List.set_cons_zero, List.set_cons_succ]
                refine wpAnyH_take (i := 16) (v := .int .i64 n) nth16 (by kernel_rfl) (by kernel_rfl) (by kernel_rfl) (fun _ _ _ h => h) (Or.inl ⟨by rfl, ?hyr1y94x16⟩) hHeld ?_
                case hyr1y94x16 => (intro wH hSw; have hc := hSw.2 ix (by simp; omega); rw [hn] at hc; clear hSw; go_simp)
                simp only [Act.put, List.setIfInBounds_toArray, List.set_cons_zero, List.set_cons_succ]
                refine wpAnyH_ready (rs := [19]) (by kernel_rfl) (by simp) ?_
                refine AllReadyH.cons nth19 (fun KK hKK => ?_) ?_
                · clear hHeld s
                  obtain ⟨a1_, a2_, a3_, a4_, a5_⟩ := fl.hs
                  replace hn := Lib.hid hn
                  replace ix1 := Lib.hid ix1
                  go_simp
                  replace hn := hn.out
                  replace ix1 := ix1.out
                  clear a1_ a2_ a3_ a4_ a5_
                  obtain ⟨u8, hu, gl, lk⟩ := fl.store2 X Y
                  rw [← hu]
                  replace fl := gl
                  replace litB := lk _ _ (by omega) litB
                  replace litA := lk _ _ (by omega) litA
                  clear hu gl lk
                  have s := (And.intro (And.intro (And.intro fl.kb.c0 (And.intro fl.kb.c1 fl.kb.c2)) litB.1) litA.1)
                  refine hKK.out _ _ s (fun hHeld => ?_)
                  clear hKK KK hHeld
                  try simp only [Act.put, List.setIfInBounds_toArray, List.set_cons_zero, List.set_cons_succ]
                  have hHeld := s
                  refine wpAnyH_take (i := 20) (v := ?vr1y95x20) nth20 (by kernel_rfl) (by kernel_rfl) (by kernel_rfl) (fun _ _ _ h => h) (Or.inl ⟨by rfl, ?hyr1y95x20⟩) hHeld ?_
                  case hyr1y95x20 => (intro wH hSw; (try dsimp only at hSw); go_simp; (try with_reducible rfl))
                  simp only [Act.put, List.setIfInBounds_toArray, List.set_cons_zero, List.set_cons_succ]
                  refine wpAnyH_done (by kernel_rfl) ?_ _
                  clear hHeld s
                  obtain ⟨a1_, a2_, a3_, a4_, a5_, a6_⟩ := fl.kr
                  obtain ⟨b1_, b2_, b3_, b4_, b5_⟩ := fl.hs
                  go_wp2_with fail
                  exact bodyPost_ret (v := .tuple #[.agg #[.slice a1 n1 c1, .slice a2 n2 c2, .slice a3 n3 c3], .slice aj nj cj, .agg #[.int .i64 X, .int .i64 Y], .int .i64 n]) (by simp [results, Tryd.results30, go_sem, a1_, a2_, a3_, b1_, b2_]) rfl ⟨a1, n1, c1, a2, n2, c2, a3, n3, c3, l, lo, hi, aj, nj, cj, J, X, Y, n, rfl, fl.hf.base (by omega), ⟨hj1.out, by omega, hj3.out, fl.hj.base (by omega)⟩, fl.q⟩
                exact AllReadyH.nil
              refine AllReadyH.cons nth19 (fun KK hKK => ?_) ?_
              · clear hHeld s
                obtain ⟨a1_, a2_, a3_, a4_, a5_⟩ := fl.hs
                replace hn := Lib.hid hn
                replace ix1 := Lib.hid ix1
                go_simp
                replace hn := hn.out
                replace ix1 := ix1.out
                clear a1_ a2_ a3_ a4_ a5_
                obtain ⟨u7, hu, gl, lk⟩ := fl.store2 X Y
                rw [← hu]
                replace fl := gl
                replace litB := lk _ _ (by omega) litB
                clear hu gl lk
                have s := (And.intro (And.intro fl.kb.c0 (And.intro fl.kb.c1 fl.kb.c2)) litB.1)
                refine hKK.out _ _ s (fun hHeld => ?_)
                clear hKK KK hHeld
                try simp only [Act.put, List.setIfInBounds_toArray, List.set_cons_zero, List.set_cons_succ]
                have hHeld := s
                refine wpAnyH_ready (rs := [9]) (by kernel_rfl) (by simp) ?_
                refine AllReadyH.cons nth9 (fun KK hKK => ?_) ?_
                · clear hHeld s
                  go_simp
                  obtain ⟨u8, JA, hu, hJ, gl, litA, gtA, lk, rk⟩ := fl.lits [v1_, v2_, -1, 501] 3 _ rfl
                  simp only [List.map_cons, List.map_nil] at hu
                  rw [← hu, ← hJ]
                  replace fl := gl
                  replace litB := lk _ _ litB
                  clear hu hJ gl lk rk
                  have s := (And.intro (And.intro fl.kb.c0 (And.intro fl.kb.c1 fl.kb.c2)) litB.1)
                  refine hKK.out _ _ s (fun hHeld => ?_)
                  clear hKK KK hHeld
                  try simp only [Act.put, List.setIfInBounds_toArray, List.set_cons_zero, List.set_cons_succ]
                  clear s
                  have s := (And.intro (And.intro (And.intro fl.kb.c0 (And.intro fl.kb.c1 fl.kb.c2)) litB.1) litA.1)
                  refine wpAnyH_strong (S' := (fun w' => ((w'.cell? ⟨K, 0, none⟩ = some (.slice a1 n1 c1) ∧ w'.cell? ⟨K, 1, none⟩ = some (.slice a2 n2 c2) ∧ w'.cell? ⟨K, 2, none⟩ = some (.slice a3 n3 c3)) ∧ (LitAt w' JB [0, 0, 1, 1, 2, 3])) ∧ (LitAt w' JA [v1_, v2_, -1, 501]))) (fun _ h => h.1) ?_
                  have hHeld := s
                  refine wpAnyH_take (i := 15) (v := ?vr1y96x15) nth15 (by kernel_rfl) (by kernel_rfl) (by kernel_rfl) (fun _ _ _ h => h) (Or.inl ⟨by rfl, ?hyr1y96x15⟩) hHeld ?_
                  case hyr1y96x15 => (intro wH hSw; (try dsimp only at hSw); go_simp; (try with_reducible rfl))
                  simp only [Act.put, List.setIfInBounds_toArray, List.set_cons_zero, List.set_cons_succ]
                  refine wpAnyH_take (i := 16) (v := .int .i64 n) nth16 (by kernel_rfl) (by kernel_rfl) (by kernel_rfl) (fun _ _ _ h => h) (Or.inl ⟨by rfl, ?hyr1y97x16⟩) hHeld ?_
                  case hyr1y97x16 => (intro wH hSw; have hc := hSw.2 ix (by simp; omega); rw [hn] at hc; clear hSw; go_simp)
                  simp only [Act.put, List.setIfInBounds_toArray, List.set_cons_zero, List.set_cons_succ]
                  refine wpAnyH_take (i := 20) (v := ?vr1y98x20) nth20 (by kernel_rfl) (by kernel_rfl) (by kernel_rfl) (fun _ _ _ h => h) (Or.inl ⟨by rfl, ?hyr1y98x20⟩) hHeld ?_
                  case hyr1y98x20 => (intro wH hSw; (try dsimp only at hSw); go_simp; (try with_reducible rfl))
                  simp only [Act.put, List.setIfInBounds_toArray, List.set_cons_zero, List.set_cons_succ]
                  refine wpAnyH_done (by kernel_rfl) ?_ _
                  clear hHeld s
                  obtain ⟨a1_, a2_, a3_, a4_, a5_, a6_⟩ := fl.kr
                  obtain ⟨b1_, b2_, b3_, b4_, b5_⟩ := fl.hs
                  go_wp2_with fail
                  exact bodyPost_ret (v := .tuple #[.agg #[.slice a1 n1 c1, .slice a2 n2 c2, .slice a3 n3 c3], .slice aj nj cj, .agg #[.int .i64 X, .int .i64 Y], .int .i64 n]) (by simp [results, Tryd.results30, go_sem, a1_, a2_, a3_, b1_, b2_]) rfl ⟨a1, n1, c1, a2, n2, c2, a3, n3, c3, l, lo, hi, aj, nj, cj, J, X, Y, n, rfl, fl.hf.base (by omega), ⟨hj1.out, by omega, hj3.out, fl.hj.base (by omega)⟩, fl.q⟩
                exact AllReadyH.nil
              exact AllReadyH.nil
            refine AllReadyH.cons nth19 (fun KK hKK => ?_) ?_
            · clear hHeld s
              obtain ⟨a1_, a2_, a3_, a4_, a5_⟩ := fl.hs
              replace hn := Lib.hid hn
              replace ix1 := Lib.hid ix1
              go_simp
              replace hn := hn.out
              replace ix1 := ix1.out
              clear a1_ a2_ a3_ a4_ a5_
              obtain ⟨u6, hu, gl, lk⟩ := fl.store2 X Y
              rw [← hu]
              replace fl := gl
              clear hu gl lk
              have s := (And.intro fl.kb.c0 (And.intro fl.kb.c1 fl.kb.c2))
              refine hKK.out _ _ s (fun hHeld => ?_)
              clear hKK KK hHeld
              try simp only [Act.put, List.setIfInBounds_toArray, List.set_cons_zero, List.set_cons_succ]
              have hHeld := s
              refine wpAnyH_ready (rs := [9, 10]) (by kernel_rfl) (by simp) ?_
              refine AllReadyH.cons nth9 (fun KK hKK => ?_) ?_
              · clear hHeld s
                go_simp
                obtain ⟨u7, JA, hu, hJ, gl, litA, gtA, lk, rk⟩ := fl.lits [v1_, v2_, -1, 501] 3 _ rfl
                simp only [List.map_cons, List.map_nil] at hu
                rw [← hu, ← hJ]
                replace fl := gl
                clear hu hJ gl lk rk
                have s := (And.intro fl.kb.c0 (And.intro fl.kb.c1 fl.kb.c2))
                refine hKK.out _ _ s (fun hHeld => ?_)
                clear hKK KK hHeld
                try simp only [Act.put, List.setIfInBounds_toArray, List.set_cons_zero, List.set_cons_succ]
                clear s
                have s := (And.intro (And.intro fl.kb.c0 (And.intro fl.kb.c1 fl.kb.c2)) litA.1)
                refine wpAnyH_strong (S' := (fun w' => (w'.cell? ⟨K, 0, none⟩ = some (.slice a1 n1 c1) ∧ w'.cell? ⟨K, 1, none⟩ = some (.slice a2 n2 c2) ∧ w'.cell? ⟨K, 2, none⟩ = some (.slice a3 n3 c3)) ∧ (LitAt w' JA [v1_, v2_, -1, 501]))) (fun _ h => h.1) ?_
                have hHeld := s
                refine wpAnyH_ready (rs := [10]) (by kernel_rfl) (by simp) ?_
                refine AllReadyH.cons nth10 (fun KK hKK => ?_) ?_
                · clear hHeld s
                  go_simp
                  obtain ⟨u8, JB, hu, hJ, gl, litB, gtB, lk, rk⟩ := fl.lits [0, 0, 1, 1, 2, 3] 3 _ rfl
                  simp only [List.map_cons, List.map_nil] at hu
                  rw [← hu, ← hJ]
                  replace fl := gl
                  replace litA := lk _ _ litA
                  clear hu hJ gl lk rk
                  have s := (And.intro (And.intro fl.kb.c0 (And.intro fl.kb.c1 fl.kb.c2)) litA.1)
                  refine hKK.out _ _ s (fun hHeld => ?_)
                  clear hKK KK hHeld
                  try simp only [Act.put, List.setIfInBounds_toArray, List.set_cons_zero, List.set_cons_succ]
                  clear s
                  have s := (And.intro (And.intro (And.intro fl.kb.c0 (And.intro fl.kb.c1 fl.kb.c2)) litA.1) litB.1)
                  refine wpAnyH_strong (S' := (fun w' => ((w'.cell? ⟨K, 0, none⟩ = some (.slice a1 n1 c1) ∧ w'.cell? ⟨K, 1, none⟩ = some (.slice a2 n2 c2) ∧ w'.cell? ⟨K, 2, none⟩ = some (.slice a3 n3 c3)) ∧ (LitAt w' JA [v1_, v2_, -1, 501])) ∧ (LitAt w' JB [0, 0, 1, 1, 2, 3]))) (fun _ h => h.1) ?_
                  have hHeld := s
                  refine wpAnyH_take (i := 13) (v := ?vr1y99x13) nth13 (by kernel_rfl) (by kernel_rfl) (by kernel_rfl) (fun _ _ _ h => h) (Or.inl ⟨by rfl, ?hyr1y99x13⟩) hHeld ?_
                  case hyr1y99x13 => (intro wH hSw; (try dsimp only at hSw); go_simp; (try with_reducible rfl))
                  simp only [Act.put, List.setIfInBounds_toArray, List.set_cons_zero, List.set_cons_succ]
                  refine wpAnyH_take (i := 14) (v := .int .i64 (ix : Int)) nth14 (by kernel_rfl) (by kernel_rfl) (by kernel_rfl) (fun _ _ _ h => h) (Or.inl ⟨by rfl, ?hyr1y100x14⟩) hHeld ?_
                  case hyr1y100x14 => (intro wH hSw; have hc := hSw.2 t (by simp; omega); rw [ix1] at hc; clear hSw; go_simp)
                  simp only [Act.put, List.setIfInBounds_toArray, List.set_cons_zero, List.set_cons_succ]
                  refine wpAnyH_take (i := 15) (v := ?vr1y101x15) nth15 (by kernel_rfl) (by kernel_rfl) (by kernel_rfl) (fun _ _ _ h => h) (Or.inl ⟨by rfl, ?hyr1y101x15⟩) hHeld ?_
                  case hyr1y101x15 => (intro wH hSw; (try dsimp only at hSw); go_simp; (try with_reducible rfl))
                  simp only [Act.put, List.setIfInBounds_toArray, List.set_cons_zero, List.set_cons_succ]
                  refine wpAnyH_take (i := 16) (v := .int .i64 n) nth16 (by kernel_rfl) (by kernel_rfl) (by kernel_rfl) (fun _ _ _ h => h) (Or.inl ⟨by rfl, ?hyr1y102x16⟩) hHeld ?_
                  case hyr1y102x16 => (intro wH hSw; have hc := hSw.1.2 ix (by simp; omega); rw [hn] at hc; clear hSw; go_simp)
                  simp only [Act.put, List.setIfInBounds_toArray, List.set_cons_zero, List.set_cons_succ]
                  refine wpAnyH_take (i := 20) (v := ?vr1y103x20) nth20 (by kernel_rfl) (by kernel_rfl) (by kernel_rfl) (fun _ _ _ h => h) (Or.inl ⟨by rfl, ?hyr1y103x20⟩) hHeld ?_
                  case hyr1y103x20 => (intro wH hSw; (try dsimp only at hSw); go_simp; (try with_reducible rfl))
                  simp only [Act.put, List.setIfInBounds_toArray, List.set_cons_zero, List.set_cons_succ]
                  refine wpAnyH_done (by kernel_rfl) ?_ _
                  clear hHeld s
                  obtain ⟨a1_, a2_, a3_, a4_, a5_, a6_⟩ := fl.kr
                  obtain ⟨b1_, b2_, b3_, b4_, b5_⟩ := fl.hs
                  go_wp2_with fail
                  exact bodyPost_ret (v := .tuple #[.agg #[.slice a1 n1 c1, .slice a2 n2 c2, .slice a3 n3 c3], .slice aj nj cj, .agg #[.int .i64 X, .int .i64 Y], .int .i64 n]) (by simp [results, Tryd.results30, go_sem, a1_, a2_, a3_, b1_, b2_]) rfl ⟨a1, n1, c1, a2, n2, c2, a3, n3, c3, l, lo, hi, aj, nj, cj, J, X, Y, n, rfl, fl.hf.base (by omega), ⟨hj1.out, by omega, hj3.out, fl.hj.base (by omega)⟩, fl.q⟩
                exact AllReadyH.nil
              refine AllReadyH.cons nth10 (fun KK hKK => ?_) ?_
              · clear hHeld s
                go_simp
                obtain ⟨u7, JB, hu, hJ, gl, litB, gtB, lk, rk⟩ := fl.lits [0, 0, 1, 1, 2, 3] 3 _ rfl
                simp only [List.map_cons, List.map_nil] at hu
                rw [← hu, ← hJ]
                replace fl := gl
                clear hu hJ gl lk rk
                have s := (And.intro fl.kb.c0 (And.intro fl.kb.c1 fl.kb.c2))
                refine hKK.out _ _ s (fun hHeld => ?_)
                clear hKK KK hHeld
                try simp only [Act.put, List.setIfInBounds_toArray, List.set_cons_zero, List.set_cons_succ]
                clear s
                have s := (And.intro (And.intro fl.kb.c0 (And.intro fl.kb.c1 fl.kb.c2)) litB.1)
                refine wpAnyH_strong (S' := (fun w' => (w'.cell? ⟨K, 0, none⟩ = some (.slice a1 n1 c1) ∧ w'.cell? ⟨K, 1, none⟩ = some (.slice a2 n2 c2) ∧ w'.cell? ⟨K, 2, none⟩ = some (.slice a3 n3 c3)) ∧ (LitAt w' JB [0, 0, 1, 1, 2, 3]))) (fun _ h => h.1) ?_
                have hHeld := s
                refine wpAnyH_take (i := 13) (v := ?vr1y104x13) nth13 (by kernel_rfl) (by kernel_rfl) (by kernel_rfl) (fun _ _ _ h => h) (Or.inl ⟨by rfl, ?hyr1y104x13⟩) hHeld ?_
                case hyr1y104x13 => (intro wH hSw; (try dsimp only at hSw); go_simp; (try with_reducible rfl))
                simp only [Act.put, List.setIfInBounds_toArray, List.set_cons_zero, List.set_cons_succ]
                refine wpAnyH_take (i := 14) (v := .int .i64 (ix : Int)) nth14 (by kernel_rfl) (by kernel_rfl) (by kernel_rfl) (fun _ _ _ h => h) (Or.inl ⟨by rfl, ?hyr1y105x14⟩) hHeld ?_
                case hyr1y105x14 => (intro wH hSw; have hc := hSw.2 t (by simp; omega); rw [ix1] at hc; clear hSw; go_simp)
                simp only [Act.put, List.setIfInBounds_toArray, List.set_cons_zero, List.set_cons_succ]
                refine wpAnyH_ready (rs := [9]) (by kernel_rfl) (by simp) ?_
                refine AllReadyH.cons nth9 (fun KK hKK => ?_) ?_
                · clear hHeld s
                  go_simp
                  obtain ⟨u8, JA, hu, hJ, gl, litA, gtA, lk, rk⟩ := fl.lits [v1_, v2_, -1, 501] 3 _ rfl
                  simp only [List.map_cons, List.map_nil] at hu
                  rw [← hu, ← hJ]
                  replace fl := gl
                  replace litB := lk _ _ litB
                  clear hu hJ gl lk rk
                  have s := (And.intro (And.intro fl.kb.c0 (And.intro fl.kb.c1 fl.kb.c2)) litB.1)
                  refine hKK.out _ _ s (fun hHeld => ?_)
                  clear hKK KK hHeld
                  try simp only [Act.put, List.setIfInBounds_toArray, List.set_cons_zero, List.set_cons_succ]
                  clear s
                  have s := (And.intro (And.intro (And.intro fl.kb.c0 (And.intro fl.kb.c1 fl.kb.c2)) litB.1) litA.1)
                  refine wpAnyH_strong (S' := (fun w' => ((w'.cell? ⟨K, 0, none⟩ = some (.slice a1 n1 c1) ∧ w'.cell? ⟨K, 1, none⟩ = some (.slice a2 n2 c2) ∧ w'.cell? ⟨K, 2, none⟩ = some (.slice a3 n3 c3)) ∧ (LitAt w' JB [0, 0, 1, 1, 2, 3])) ∧ (LitAt w' JA [v1_, v2_, -1, 501]))) (fun _ h => h.1) ?_
                  have hHeld := s
                  refine wpAnyH_take (i := 15) (v := ?vr1y106x15) nth15 (by kernel_rfl) (by kernel_rfl) (by kernel_rfl) (fun _ _ _ h => h) (Or.inl ⟨by rfl, ?hyr1y106x15⟩) hHeld ?_
                  case hyr1y106x15 => (intro wH hSw; (try dsimp only at hSw); go_simp; (try with_reducible rfl))
                  simp only [Act.put, List.setIfInBounds_toArray, List.set_cons_zero, List.set_cons_succ]
                  refine wpAnyH_take (i := 16) (v := .int .i64 n) nth16 (by kernel_rfl) (by kernel_rfl) (by kernel_rfl) (fun _ _ _ h => h) (Or.inl ⟨by rfl, ?hyr1y107x16⟩) hHeld ?_
                  case hyr1y107x16 => (intro wH hSw; have hc := hSw.2 ix (by simp; omega); rw [hn] at hc; clear hSw; go_simp)
                  simp only [Act.put, List.setIfInBounds_toArray, List.set_cons_zero, List.set_cons_succ]
                  refine wpAnyH_take (i := 20) (v := ?vr1y108x20) nth20 (by kernel_rfl) (by kernel_rfl) (by kernel_rfl) (fun _ _ _ h => h) (Or.inl ⟨by rfl, ?hyr1y108x20⟩) hHeld ?_
                  case hyr1y108x20 => (intro wH hSw; (try dsimp only at hSw); go_simp; (try with_reducible rfl))
                  simp only [Act.put, List.setIfInBounds_toArray, List.set_cons_zero, List.set_cons_succ]
                  refine wpAnyH_done (by kernel_rfl) ?_ _
                  clear hHeld s
                  obtain ⟨a1_, a2_, a3_, a4_, a5_, a6_⟩ := fl.kr
                  obtain ⟨b1_, b2_, b3_, b4_, b5_⟩ := fl.hs
                  go_wp2_with fail
                  exact bodyPost_ret (v := .tuple #[.agg #[.slice a1 n1 c1, .slice a2 n2 c2, .slice a3 n3 c3], .slice aj nj cj, .agg #[.int .i64 X, .int .i64 Y], .int .i64 n]) (by simp [results, Tryd.results30, go_sem, a1_, a2_, a3_, b1_, b2_]) rfl ⟨a1, n1, c1, a2, n2, c2, a3, n3, c3, l, lo, hi, aj, nj, cj, J, X, Y, n, rfl, fl.hf.base (by omega), ⟨hj1.out, by omega, hj3.out, fl.hj.base (by omega)⟩, fl.q⟩
                exact AllReadyH.nil
              exact AllReadyH.nil
            exact AllReadyH.nil
          exact AllReadyH.nil
        exact AllReadyH.nil
      refine AllReadyH.cons nth10 (fun KK hKK => ?_) ?_
      · clear hHeld s
        go_simp
        obtain ⟨u3, JB, hu, hJ, gl, litB, gtB, lk, rk⟩ := fl.lits [0, 0, 1, 1, 2, 3] 3 _ rfl
        simp only [List.map_cons, List.map_nil] at hu
        rw [← hu, ← hJ]
        replace fl := gl
        replace rd := rk _ _ rd
        clear hu hJ gl lk rk
        have s := (And.intro fl.kb.c0 (And.intro fl.kb.c1 fl.kb.c2))
        refine hKK.out _ _ s (fun hHeld => ?_)
        clear hKK KK hHeld
        try simp only [Act.put, List.setIfInBounds_toArray, List.set_cons_zero, List.set_cons_succ]
        clear s
        have s := (And.intro (And.intro fl.kb.c0 (And.intro fl.kb.c1 fl.kb.c2)) litB.1)
        refine wpAnyH_strong (S' := (fun w' => (w'.cell? ⟨K, 0, none⟩ = some (.slice a1 n1 c1) ∧ w'.cell? ⟨K, 1, none⟩ = some (.slice a2 n2 c2) ∧ w'.cell? ⟨K, 2, none⟩ = some (.slice a3 n3 c3)) ∧ (LitAt w' JB [0, 0, 1, 1, 2, 3]))) (fun _ h => h.1) ?_
        have hHeld := s
        refine wpAnyH_ready (rs := [8]) (by kernel_rfl) (by simp) ?_
        refine AllReadyH.cons nth8 (fun KK hKK => ?_) ?_
        · clear hHeld s
          go_simp
          go_at_call 58
          refine (pick_any R _ _ _ rd (by omega) (by omega) (by omega)).mono ?_
          rintro e u4 ⟨v2_, v2p, v2q, rfl, r, b⟩
          replace litB := litB.beside b (by omega)
          replace fl := fl.beside b ⟨hh.1, by omega, hB.1, hB.2⟩
          replace rd := r
          clear b r
          clear v2p v2q
          have s := (And.intro (And.intro fl.kb.c0 (And.intro fl.kb.c1 fl.kb.c2)) litB.1)
          refine hKK.out _ _ s (fun hHeld => ?_)
          clear hKK KK hHeld
          try simp only [Act.put, List.setIfInBounds_toArray, List.set_cons_zero, List.set_cons_succ]
          have hHeld := s
          refine wpAnyH_ready (rs := [9, 12]) (by kernel_rfl) (by simp) ?_
          refine AllReadyH.cons nth9 (fun KK hKK => ?_) ?_
          · clear hHeld s
            go_simp
            obtain ⟨u5, JA, hu, hJ, gl, litA, gtA, lk, rk⟩ := fl.lits [v1_, v2_, -1, 501] 3 _ rfl
            simp only [List.map_cons, List.map_nil] at hu
            rw [← hu, ← hJ]
            replace fl := gl
            replace litB := lk _ _ litB
            replace rd := rk _ _ rd
            clear hu hJ gl lk rk
            have s := (And.intro (And.intro fl.kb.c0 (And.intro fl.kb.c1 fl.kb.c2)) litB.1)
            refine hKK.out _ _ s (fun hHeld => ?_)
            clear hKK KK hHeld
            try simp only [Act.put, List.setIfInBounds_toArray, List.set_cons_zero, List.set_cons_succ]
            clear s
            have s := (And.intro (And.intro (And.intro fl.kb.c0 (And.intro fl.kb.c1 fl.kb.c2)) litB.1) litA.1)
            refine wpAnyH_strong (S' := (fun w' => ((w'.cell? ⟨K, 0, none⟩ = some (.slice a1 n1 c1) ∧ w'.cell? ⟨K, 1, none⟩ = some (.slice a2 n2 c2) ∧ w'.cell? ⟨K, 2, none⟩ = some (.slice a3 n3 c3)) ∧ (LitAt w' JB [0, 0, 1, 1, 2, 3])) ∧ (LitAt w' JA [v1_, v2_, -1, 501]))) (fun _ h => h.1) ?_
            have hHeld := s
            refine wpAnyH_ready (rs := [12]) (by kernel_rfl) (by simp) ?_
            refine AllReadyH.cons nth12 (fun KK hKK => ?_) ?_
            · clear hHeld s
              go_simp
              go_at_call 58
              refine (pick_any R _ _ _ rd (by omega) (by omega) (by omega)).mono ?_
              rintro e u6 ⟨t_, tp, tq, rfl, r, b⟩
              replace litB := litB.beside b (by omega)
              replace litA := litA.beside b (by omega)
              replace fl := fl.beside b ⟨hh.1, by omega, hB.1, hB.2⟩
              clear b r rd
              obtain ⟨t, rfl⟩ : ∃ t : Nat, t_ = t := ⟨t_.toNat, by omega⟩
              have tl : t < 6 := by omega
              obtain ⟨ix1, ix2⟩ := follow_idx t tl
              generalize hix : (([0, 0, 1, 1, 2, 3] : List Int).getD t 0).toNat = ix at ix1 ix2
              clear hix
              have ix3 : (ix : Int) < 4 := by omega
              obtain ⟨n, hn⟩ : ∃ n, ([v1_, v2_, -1, 501] : List Int).getD ix 0 = n := ⟨_, rfl⟩
              have s := (And.intro (And.intro (And.intro fl.kb.c0 (And.intro fl.kb.c1 fl.kb.c2)) litB.1) litA.1)
              refine hKK.out _ _ s (fun hHeld => ?_)
              clear hKK KK hHeld
              try simp only [Act.put, List.setIfInBounds_toArray, List.set_cons_zero, List.set_cons_succ]
              have hHeld := s
              refine wpAnyH_take (i := 13) (v := ?vr1y109x13) nth13 (by kernel_rfl) (by kernel_rfl) (by kernel_rfl) (fun _ _ _ h => h) (Or.inl ⟨by rfl, ?hyr1y109x13⟩) hHeld ?_
              case hyr1y109x13 => (intro wH hSw; (try dsimp only at hSw); go_simp; (try with_reducible rfl))
              simp only [Act.put, List.setIfInBounds_toArray, List.set_cons_zero, List.set_cons_succ]
              refine wpAnyH_take (i := 14) (v := .int .i64 (ix : Int)) nth14 (by kernel_rfl) (by kernel_rfl) (by kernel_rfl) (fun _ _ _ h => h) (Or.inl ⟨by rfl, ?hyr1y110x14⟩) hHeld ?_
              case hyr1y110x14 => (intro wH hSw; have hc := hSw.1.2 t (by simp; omega); rw [ix1] at hc; clear hSw; go_simp)
              simp only [Act.put, List.setIfInBounds_toArray, List.set_cons_zero, List.set_cons_succ]
              refine wpAnyH_take (i := 15) (v := ?vr1y111x15) nth15 (by kernel_rfl) (by kernel_rfl) (by kernel_rfl) (fun _ _ _ h => h) (Or.inl ⟨by rfl, ?hyr1y111x15⟩) hHeld ?_
              case hyr1y111x15 => (intro wH hSw; (try dsimp only at hSw); go_simp; (try with_reducible rfl))
              simp only [Act.put, List.setIfInBounds_toArray, List.set_cons_zero, List.set_cons_succ]
              refine wpAnyH_take (i := 16) (v := .int .i64 n) nth16 (by kernel_rfl) (by kernel_rfl) (by kernel_rfl) (fun _ _ _ h => h) (Or.inl ⟨by rfl, ?hyr1y112x16⟩) hHeld ?_
              case hyr1y112x16 => (intro wH hSw; have hc := hSw.2 ix (by simp; omega); rw [hn] at hc; clear hSw; go_simp)
              simp only [Act.put, List.setIfInBounds_toArray, List.set_cons_zero, List.set_cons_succ]
              refine wpAnyH_ready (rs := [17]) (by kernel_rfl) (by simp) ?_
              refine AllReadyH.cons nth17 (fun KK hKK => ?_) ?_
              · clear hHeld s
                obtain ⟨a1_, a2_, a3_, a4_, a5_, a6_⟩ := fl.kr
                replace hn := Lib.hid hn
                replace ix1 := Lib.hid ix1
                go_simp
                replace hn := hn.out
                replace ix1 := ix1.out
                clear a1_ a2_ a3_ a4_ a5_ a6_
                obtain ⟨u7, hu, gl, lk⟩ := fl.store1
                rw [← hu]
                replace fl := gl
                replace litB := lk _ _ (by omega) litB
                replace litA := lk _ _ (by omega) litA
                clear hu gl lk
                have s := (And.intro (And.intro (And.intro fl.kb.c0 (And.intro fl.kb.c1 fl.kb.c2)) litB.1) litA.1)
                refine hKK.out _ _ s (fun hHeld => ?_)
                clear hKK KK hHeld
                try simp only [Act.put, List.setIfInBounds_toArray, List.set_cons_zero, List.set_cons_succ]
                have hHeld := s
                refine wpAnyH_take (i := 18) (v := ?vr1y113x18) nth18 (by kernel_rfl) (by kernel_rfl) (by kernel_rfl) (fun _ _ _ h => h) (Or.inl ⟨by rfl, ?hyr1y113x18⟩) hHeld ?_
                case hyr1y113x18 => (intro wH hSw; (try dsimp only at hSw); go_simp; (try with_reducible rfl))
                simp only [Act.put, List.setIfInBounds_toArray, List.set_cons_zero, List.set_cons_succ]
                refine wpAnyH_ready (rs := [19]) (by kernel_rfl) (by simp) ?_
                refine AllReadyH.cons nth19 (fun KK hKK => ?_) ?_
                · clear hHeld s
                  obtain ⟨a1_, a2_, a3_, a4_, a5_⟩ := fl.hs
                  replace hn := Lib.hid hn
                  replace ix1 := Lib.hid ix1
                  go_simp
                  replace hn := hn.out
                  replace ix1 := ix1.out
                  clear a1_ a2_ a3_ a4_ a5_
                  obtain ⟨u8, hu, gl, lk⟩ := fl.store2 X Y
                  rw [← hu]
                  replace fl := gl
                  replace litB := lk _ _ (by omega) litB
                  replace litA := lk _ _ (by omega) litA
                  clear hu gl lk
                  have s := (And.intro (And.intro (And.intro fl.kb.c0 (And.intro fl.kb.c1 fl.kb.c2)) litB.1) litA.1)
                  refine hKK.out _ _ s (fun hHeld => ?_)
                  clear hKK KK hHeld
                  try simp only [Act.put, List.setIfInBounds_toArray, List.set_cons_zero, List.set_cons_succ]
                  have hHeld := s
                  refine wpAnyH_take (i := 20) (v := ?vr1y114x20) nth20 (by kernel_rfl) (by kernel_rfl) (by kernel_rfl) (fun _ _ _ h => h) (Or.inl ⟨by rfl, ?hyr1y114x20⟩) hHeld ?_
                  case hyr1y114x20 => (intro wH hSw; (try dsimp only at hSw); go_simp; (try with_reducible rfl))
                  simp only [Act.put, List.setIfInBounds_toArray, List.set_cons_zero, List.set_cons_succ]
                  refine wpAnyH_done (by kernel_rfl) ?_ _
                  clear hHeld s
                  obtain ⟨a1_, a2_, a3_, a4_, a5_, a6_⟩ := fl.kr
                  obtain ⟨b1_, b2_, b3_, b4_, b5_⟩ := fl.hs
                  go_wp2_with fail
                  exact bodyPost_ret (v := .tuple #[.agg #[.slice a1 n1 c1, .slice a2 n2 c2, .slice a3 n3 c3], .slice aj nj cj, .agg #[.int .i64 X, .int .i64 Y], .int .i64 n]) (by simp [results, Tryd.results30, go_sem, a1_, a2_, a3_, b1_, b2_]) rfl ⟨a1, n1, c1, a2, n2, c2, a3, n3, c3, l, lo, hi, aj, nj, cj, J, X, Y, n, rfl, fl.hf.base (by omega), ⟨hj1.out, by omega, hj3.out, fl.hj.base (by omega)⟩, fl.q⟩
                exact AllReadyH.nil
              exact AllReadyH.nil
            exact AllReadyH.nil
          refine AllReadyH.cons nth12 (fun KK hKK => ?_) ?_
          · clear hHeld s
            go_simp
            go_at_call 58
            refine (pick_any R _ _ _ rd (by omega) (by omega) (by omega)).mono ?_
            rintro e u5 ⟨t_, tp, tq, rfl, r, b⟩
            replace litB := litB.beside b (by omega)
            replace fl := fl.beside b ⟨hh.1, by omega, hB.1, hB.2⟩
            clear b r rd
            obtain ⟨t, rfl⟩ : ∃ t : Nat, t_ = t := ⟨t_.toNat, by omega⟩
            have tl : t < 6 := by omega
            obtain ⟨ix1, ix2⟩ := follow_idx t tl
            generalize hix : (([0, 0, 1, 1, 2, 3] : List Int).getD t 0).toNat = ix at ix1 ix2
            clear hix
            have ix3 : (ix : Int) < 4 := by omega
            obtain ⟨n, hn⟩ : ∃ n, ([v1_, v2_, -1, 501] : List Int).getD ix 0 = n := ⟨_, rfl⟩
            have s := (And.intro (And.intro fl.kb.c0 (And.intro fl.kb.c1 fl.kb.c2)) litB.1)
            refine hKK.out _ _ s (fun hHeld => ?_)
            clear hKK KK hHeld
            try simp only [Act.put, List.setIfInBounds_toArray, List.set_cons_zero, List.set_cons_succ]
            have hHeld := s
            refine wpAnyH_take (i := 13) (v := ?vr1y115x13) nth13 (by kernel_rfl) (by kernel_rfl) (by kernel_rfl) (fun _ _ _ h => h) (Or.inl ⟨by rfl, ?hyr1y115x13⟩) hHeld ?_
            case hyr1y115x13 => (intro wH hSw; (try dsimp only at hSw); go_simp; (try with_reducible rfl))
            simp only [Act.put, List.setIfInBounds_toArray, List.set_cons_zero, List.set_cons_succ]
            refine wpAnyH_take (i := 14) (v := .int .i64 (ix : Int)) nth14 (by kernel_rfl) (by kernel_rfl) (by kernel_rfl) (fun _ _ _ h => h) (Or.inl ⟨by rfl, ?hyr1y116x14⟩) hHeld ?_
            case hyr1y116x14 => (intro wH hSw; have hc := hSw.2 t (by simp; omega); rw [ix1] at hc; clear hSw; go_simp)
            simp only [Act.put, List.setIfInBounds_toArray, List.set_cons_zero, List.set_cons_succ]
            refine wpAnyH_ready (rs := [9, 17]) (by kernel_rfl) (by simp) ?_
            refine AllReadyH.cons nth9 (fun KK hKK => ?_) ?_
            · clear hHeld s
              go_simp
              obtain ⟨u6, JA, hu, hJ, gl, litA, gtA, lk, rk⟩ := fl.lits [v1_, v2_, -1, 501] 3 _ rfl
              simp only [List.map_cons, List.map_nil] at hu
              rw [← hu, ← hJ]
              replace fl := gl
              replace litB := lk _ _ litB
              clear hu hJ gl lk rk
              have s := (And.intro (And.intro fl.kb.c0 (And.intro fl.kb.c1 fl.kb.c2)) litB.1)
              refine hKK.out _ _ s (fun hHeld => ?_)
              clear hKK KK hHeld
              try simp only [Act.put, List.setIfInBounds_toArray, List.set_cons_zero, List.set_cons_succ]
              clear s
              have s := (And.intro (And.intro (And.intro fl.kb.c0 (And.intro fl.kb.c1 fl.kb.c2)) litB.1) litA.1)
              refine wpAnyH_strong (S' := (fun w' => ((w'.cell? ⟨K, 0, none⟩ = some (.slice a1 n1 c1) ∧ w'.cell? ⟨K, 1, none⟩ = some (.slice a2 n2 c2) ∧ w'.cell? ⟨K, 2, none⟩ = some (.slice a3 n3 c3)) ∧ (LitAt w' JB [0, 0, 1, 1, 2, 3])) ∧ (LitAt w' JA [v1_, v2_, -1, 501]))) (fun _ h => h.1) ?_
              have hHeld := s
              refine wpAnyH_take (i := 15) (v := ?vr1y117x15) nth15 (by kernel_rfl) (by kernel_rfl) (by kernel_rfl) (fun _ _ _ h => h) (Or.inl ⟨by rfl, ?hyr1y117x15⟩) hHeld ?_
              case hyr1y117x15 => (intro wH hSw; (try dsimp only at hSw); go_simp; (try with_reducible rfl))
              simp only [Act.put, List.setIfInBounds_toArray, List.set_cons_zero, List.set_cons_succ]
              refine wpAnyH_take (i := 16) (v := .int .i64 n) nth16 (by kernel_rfl) (by kernel_rfl) (by kernel_rfl) (fun _ _ _ h => h) (Or.inl ⟨by rfl, ?hyr1y118x16⟩) hHeld ?_
              case hyr1y118x16 => (intro wH hSw; have hc := hSw.2 ix (by simp; omega); rw [hn] at hc; clear hSw; go_simp)
              simp only [Act.put, List.setIfInBounds_toArray, List.set_cons_zero, List.set_cons_succ]
              refine wpAnyH_ready (rs := [17]) (by kernel_rfl) (by simp) ?_
              refine AllReadyH.cons nth17 (fun KK hKK => ?_) ?_
              · clear hHeld s
                obtain ⟨a1_, a2_, a3_, a4_, a5_, a6_⟩ := fl.kr
                replace hn := Lib.hid hn
                replace ix1 := Lib.hid ix1
                go_simp
                replace hn := hn.out
                replace ix1 := ix1.out
                clear a1_ a2_ a3_ a4_ a5_ a6_
                obtain ⟨u7, hu, gl, lk⟩ := fl.store1
                rw [← hu]
                replace fl := gl
                replace litB := lk _ _ (by omega) litB
                replace litA := lk _ _ (by omega) litA
                clear hu gl lk
                have s := (And.intro (And.intro (And.intro fl.kb.c0 (And.intro fl.kb.c1 fl.kb.c2)) litB.1) litA.1)
                refine hKK.out _ _ s (fun hHeld => ?_)
                clear hKK KK hHeld
                try simp only [Act.put, List.setIfInBounds_toArray, List.set_cons_zero, List.set_cons_succ]
                have hHeld := s
                refine wpAnyH_take (i := 18) (v := ?vr1y119x18) nth18 (by kernel_rfl) (by kernel_rfl) (by kernel_rfl) (fun _ _ _ h => h) (Or.inl ⟨by rfl, ?hyr1y119x18⟩) hHeld ?_
                case hyr1y119x18 => (intro wH hSw; (try dsimp only at hSw); go_simp; (try with_reducible rfl))
                simp only [Act.put, List.setIfInBounds_toArray, List.set_cons_zero, List.set_cons_succ]
                refine wpAnyH_ready (rs := [19]) (by kernel_rfl) (by simp) ?_
                refine AllReadyH.cons nth19 (fun KK hKK => ?_) ?_
                · clear hHeld s
                  obtain ⟨a1_, a2_, a3_, a4_, a5_⟩ := fl.hs
                  replace hn := Lib.hid hn
                  replace ix1 := Lib.hid ix1
                  go_simp
                  replace hn := hn.out
                  replace ix1 := ix1.out
                  clear a1_ a2_ a3_ a4_ a5_
                  obtain ⟨u8, hu, gl, lk⟩ := fl.store2 X Y
                  rw [← hu]
                  replace fl := gl
                  replace litB := lk _ _ (by omega) litB
                  replace litA := lk _ _ (by omega) litA
                  clear hu gl lk
                  have s := (And.intro (And.intro (And.intro fl.kb.c0 (And.intro fl.kb.c1 fl.kb.c2)) litB.1) litA.1)
                  refine hKK.out _ _ s (fun hHeld => ?_)
                  clear hKK KK hHeld
                  try simp only [Act.put, List.setIfInBounds_toArray, List.set_cons_zero, List.set_cons_succ]
                  have hHeld := s
                  refine wpAnyH_take (i := 20) (v := ?vr1y120x20) nth20 (by kernel_rfl) (by kernel_rfl) (by kernel_rfl) (fun _ _ _ h => h) (Or.inl ⟨by rfl, ?hyr1y120x20⟩) hHeld ?_
                  case hyr1y120x20 => (intro wH hSw; (try dsimp only at hSw); go_simp; (try with_reducible rfl))
                  simp only [Act.put, List.setIfInBounds_toArray, List.set_cons_zero, List.set_cons_succ]
                  refine wpAnyH_done (by kernel_rfl) ?_ _
                  clear hHeld s
                  obtain ⟨a1_, a2_, a3_, a4_, a5_, a6_⟩ := fl.kr
                  obtain ⟨b1_, b2_, b3_, b4_, b5_⟩ := fl.hs
                  go_wp2_with fail
                  exact bodyPost_ret (v := .tuple #[.agg #[.slice a1 n1 c1, .slice a2 n2 c2, .slice a3 n3 c3], .slice aj nj cj, .agg #[.int .i64 X, .int .i64 Y], .int .i64 n]) (by simp [results, Tryd.results30, go_sem, a1_, a2_, a3_, b1_, b2_]) rfl ⟨a1, n1, c1, a2, n2, c2, a3, n3, c3, l, lo, hi, aj, nj, cj, J, X, Y, n, rfl, fl.hf.base (by omega), ⟨hj1.out, by omega, hj3.out, fl.hj.base (by omega)⟩, fl.q⟩
                exact AllReadyH.nil
              exact AllReadyH.nil
            refine AllReadyH.cons nth17 (fun KK hKK => ?_) ?_
            · clear hHeld s
              obtain ⟨a1_, a2_, a3_, a4_, a5_, a6_⟩ := fl.kr
              replace hn := Lib.hid hn
              replace ix1 := Lib.hid ix1
              go_simp
              replace hn := hn.out
              replace ix1 := ix1.out
              clear a1_ a2_ a3_ a4_ a5_ a6_
              obtain ⟨u6, hu, gl, lk⟩ := fl.store1
              rw [← hu]
              replace fl := gl
              replace litB := lk _ _ (by omega) litB
              clear hu gl lk
              have s := (And.intro (And.intro fl.kb.c0 (And.intro fl.kb.c1 fl.kb.c2)) litB.1)
              refine hKK.out _ _ s (fun hHeld => ?_)
              clear hKK KK hHeld
              try simp only [Act.put, List.setIfInBounds_toArray, List.set_cons_zero, List.set_cons_succ]
              have hHeld := s
              refine wpAnyH_take (i := 18) (v := ?vr1y121x18) nth18 (by kernel_rfl) (by kernel_rfl) (by kernel_rfl) (fun _ _ _ h => h) (Or.inl ⟨by rfl, ?hyr1y121x18⟩) hHeld ?_
              case hyr1y121x18 => (intro wH hSw; (try dsimp only at hSw); go_simp; (try with_reducible rfl))
              simp only [Act.put, List.setIfInBounds_toArray, List.set_cons_zero, List.set_cons_succ]
              refine wpAnyH_ready (rs := [9, 19]) (by kernel_rfl) (by simp) ?_
              refine AllReadyH.cons nth9 (fun KK hKK => ?_) ?_
              · clear hHeld s
                go_simp
                obtain ⟨u7, JA, hu, hJ, gl, litA, gtA, lk, rk⟩ := fl.lits [v1_, v2_, -1, 501] 3 _ rfl
                simp only [List.map_cons, List.map_nil] at hu
                rw [← hu, ← hJ]
                replace fl := gl
                replace litB := lk _ _ litB
                clear hu hJ gl lk rk
                have s := (And.intro (And.intro fl.kb.c0 (And.intro fl.kb.c1 fl.kb.c2)) litB.1)
                refine hKK.out _ _ s (fun hHeld => ?_)
                clear hKK KK hHeld
                try simp only [Act.put, List.setIfInBounds_toArray, List.set_cons_zero, List.set_cons_succ]
                clear s
                have s := (And.intro (And.intro (And.intro fl.kb.c0 (And.intro fl.kb.c1 fl.kb.c2)) litB.1) litA.1)
                refine wpAnyH_strong (S' := (fun w' => ((w'.cell? ⟨K, 0, none⟩ = some (.slice a1 n1 c1) ∧ w'.cell? ⟨K, 1, none⟩ = some (.slice a2 n2 c2) ∧ w'.cell? ⟨K, 2, none⟩ = some (.slice a3 n3 c3)) ∧ (LitAt w' JB [0, 0, 1, 1, 2, 3])) ∧ (LitAt w' JA [v1_, v2_, -1, 501]))) (fun _ h => h.1) ?_
                have hHeld := s
                refine wpAnyH_take (i := 15) (v := ?vr1y122x15) nth15 (by kernel_rfl) (by kernel_rfl) (by kernel_rfl) (fun _ _ _ h => h) (Or.inl ⟨by rfl, ?hyr1y122x15⟩) hHeld ?_
                case hyr1y122x15 => (intro wH hSw; (try dsimp only at hSw); go_simp; (try with_reducible rfl))
                simp only [Act.put, List.setIfInBounds_toArray, List.set_cons_zero, List.set_cons_succ]
                refine wpAnyH_take (i := 16) (v := .int .i64 n) nth16 (by kernel_rfl) (by kernel_rfl) (by kernel_rfl) (fun _ _ _ h => h) (Or.inl ⟨by rfl, ?hyr1y123x16⟩) hHeld ?_
                case hyr1y123x16 => (intro wH hSw; have hc := hSw.2 ix (by simp; omega); rw [hn] at hc; clear hSw; go_simp)
                simp only [Act.put, List.setIfInBounds_toArray, List.set_cons_zero, List.set_cons_succ]
                refine wpAnyH_ready (rs := [19]) (by kernel_rfl) (by simp) ?_
                refine AllReadyH.cons nth19 (fun KK hKK => ?_) ?_
                · clear hHeld s
                  obtain ⟨a1_, a2_, a3_, a4_, a5_⟩ := fl.hs
                  replace hn := Lib.hid hn
                  replace ix1 := Lib.hid ix1
                  go_simp
                  replace hn := hn.out
                  replace ix1 := ix1.out
                  clear a1_ a2_ a3_ a4_ a5_
                  obtain ⟨u8, hu, gl, lk⟩ := fl.store2 X Y
                  rw [← hu]
                  replace fl := gl
                  replace litB := lk _ _ (by omega) litB
                  replace litA := lk _ _ (by omega) litA
                  clear hu gl lk
                  have s := (And.intro (And.intro (And.intro fl.kb.c0 (And.intro fl.kb.c1 fl.kb.c2)) litB.1) litA.1)
                  refine hKK.out _ _ s (fun hHeld => ?_)
                  clear hKK KK hHeld
                  try simp only [Act.put, List.setIfInBounds_toArray, List.set_cons_zero, List.set_cons_succ]
                  have hHeld := s
                  refine wpAnyH_take (i := 20) (v := ?vr1y124x20) nth20 (by kernel_rfl) (by kernel_rfl) (by kernel_rfl) (fun _ _ _ h => h) (Or.inl ⟨by rfl, ?hyr1y124x20⟩) hHeld ?_
                  case hyr1y124x20 => (intro wH hSw; (try dsimp only at hSw); go_simp; (try with_reducible rfl))
                  simp only [Act.put, List.setIfInBounds_toArray, List.set_cons_zero, List.set_cons_succ]
                  refine wpAnyH_done (by kernel_rfl) ?_ _
                  clear hHeld s
                  obtain ⟨a1_, a2_, a3_, a4_, a5_, a6_⟩ := fl.kr
                  obtain ⟨b1_, b2_, b3_, b4_, b5_⟩ := fl.hs
                  go_wp2_with fail
                  exact bodyPost_ret (v := .tuple #[.agg #[.slice a1 n1 c1, .slice a2 n2 c2, .slice a3 n3 c3], .slice aj nj cj, .agg #[.int .i64 X, .int .i64 Y], .int .i64 n]) (by simp [results, Tryd.results30, go_sem, a1_, a2_, a3_, b1_, b2_]) rfl ⟨a1, n1, c1, a2, n2, c2, a3, n3, c3, l, lo, hi, aj, nj, cj, J, X, Y, n, rfl, fl.hf.base (by omega), ⟨hj1.out, by omega, hj3.out, fl.hj.base (by omega)⟩, fl.q⟩
                exact AllReadyH.nil
              refine AllReadyH.cons nth19 (fun KK hKK => ?_) ?_
              · clear hHeld s
                obtain ⟨a1_, a2_, a3_, a4_, a5_⟩ := fl.hs
                replace hn := Lib.hid hn
                replace ix1 := Lib.hid ix1
                go_simp
                replace hn := hn.out
                replace ix1 := ix1.out
                clear a1_ a2_ a3_ a4_ a5_
                obtain ⟨u7, hu, gl, lk⟩ := fl.store2 X Y
                rw [← hu]
                replace fl := gl
                replace litB := lk _ _ (by omega) litB
                clear hu gl lk
                have s := (And.intro (And.intro fl.kb.c0 (And.intro fl.kb.c1 fl.kb.c2)) litB.1)
                refine hKK.out _ _ s (fun hHeld => ?_)
                clear hKK KK hHeld
                try simp only [Act.put, List.setIfInBounds_toArray, List.set_cons_zero, List.set_cons_succ]
                have hHeld := s
                refine wpAnyH_ready (rs := [9]) (by kernel_rfl) (by simp) ?_
                refine AllReadyH.cons nth9 (fun KK hKK => ?_) ?_
                · clear hHeld s
                  go_simp
                  obtain ⟨u8, JA, hu, hJ, gl, litA, gtA, lk, rk⟩ := fl.lits [v1_, v2_, -1, 501] 3 _ rfl
                  simp only [List.map_cons, List.map_nil] at hu
                  rw [← hu, ← hJ]
                  replace fl := gl
                  replace litB := lk _ _ litB
                  clear hu hJ gl lk rk
                  have s := (And.intro (And.intro fl.kb.c0 (And.intro fl.kb.c1 fl.kb.c2)) litB.1)
                  refine hKK.out _ _ s (fun hHeld => ?_)
                  clear hKK KK hHeld
                  try simp only [Act.put, List.setIfInBounds_toArray, List.set_cons_zero, List.set_cons_succ]
                  clear s
                  have s := (And.intro (And.intro (And.intro fl.kb.c0 (And.intro fl.kb.c1 fl.kb.c2)) litB.1) litA.1)
                  refine wpAnyH_strong (S' := (fun w' => ((w'.cell? ⟨K, 0, none⟩ = some (.slice a1 n1 c1) ∧ w'.cell? ⟨K, 1, none⟩ = some (.slice a2 n2 c2) ∧ w'.cell? ⟨K, 2, none⟩ = some (.slice a3 n3 c3)) ∧ (LitAt w' JB [0, 0, 1, 1, 2, 3])) ∧ (LitAt w' JA [v1_, v2_, -1, 501]))) (fun _ h => h.1) ?_
                  have hHeld := s
                  refine wpAnyH_take (i := 15) (v := ?vr1y125x15) nth15 (by kernel_rfl) (by kernel_rfl) (by kernel_rfl) (fun _ _ _ h => h) (Or.inl ⟨by rfl, ?hyr1y125x15⟩) hHeld ?_
                  case hyr1y125x15 => (intro wH hSw; (try dsimp only at hSw); go_simp; (try with_reducible rfl))
                  simp only [Act.put, List.setIfInBounds_toArray, List.set_cons_zero, List.set_cons_succ]
                  refine wpAnyH_take (i := 16) (v := .int .i64 n) nth16 (by kernel_rfl) (by kernel_rfl) (by kernel_rfl) (fun _ _ _ h => h) (Or.inl ⟨by rfl, ?hyr1y126x16⟩) hHeld ?_
                  case hyr1y126x16 => (intro wH hSw; have hc := hSw.2 ix (by simp; omega); rw [hn] at hc; clear hSw; go_simp)
                  simp only [Act.put, List.setIfInBounds_toArray, List.set_cons_zero, List.set_cons_succ]
                  refine wpAnyH_take (i := 20) (v := ?vr1y127x20) nth20 (by kernel_rfl) (by kernel_rfl) (by kernel_rfl) (fun _ _ _ h => h) (Or.inl ⟨by rfl, ?hyr1y127x20⟩) hHeld ?_
                  case hyr1y127x20 => (intro wH hSw; (try dsimp only at hSw); go_simp; (try with_reducible rfl))
                  simp only [Act.put, List.setIfInBounds_toArray, List.set_cons_zero, List.set_cons_succ]
                  refine wpAnyH_done (by kernel_rfl) ?_ _
                  clear hHeld s
                  obtain ⟨a1_, a2_, a3_, a4_, a5_, a6_⟩ := fl.kr
                  obtain ⟨b1_, b2_, b3_, b4_, b5_⟩ := fl.hs
                  go_wp2_with fail
                  exact bodyPost_ret (v := .tuple #[.agg #[.slice a1 n1 c1, .slice a2 n2 c2, .slice a3 n3 c3], .slice aj nj cj, .agg #[.int .i64 X, .int .i64 Y], .int .i64 n]) (by simp [results, Tryd.results30, go_sem, a1_, a2_, a3_, b1_, b2_]) rfl ⟨a1, n1, c1, a2, n2, c2, a3, n3, c3, l, lo, hi, aj, nj, cj, J, X, Y, n, rfl, fl.hf.base (by omega), ⟨hj1.out, by omega, hj3.out, fl.hj.base (by omega)⟩, fl.q⟩
                exact AllReadyH.nil
              exact AllReadyH.nil
            exact AllReadyH.nil
          exact AllReadyH.nil
        exact AllReadyH.nil
      exact AllReadyH.nil
    refine AllReadyH.cons nth10 (fun KK hKK => ?_) ?_
    · clear hHeld s
      go_simp
      obtain ⟨u2, JB, hu, hJ, gl, litB, gtB, lk, rk⟩ := fl.lits [0, 0, 1, 1, 2, 3] 3 _ rfl
      simp only [List.map_cons, List.map_nil] at hu
      rw [← hu, ← hJ]
      replace fl := gl
      replace rd := rk _ _ rd
      clear hu hJ gl lk rk
      have s := (And.intro fl.kb.c0 (And.intro fl.kb.c1 fl.kb.c2))
      refine hKK.out _ _ s (fun hHeld => ?_)
      clear hKK KK hHeld
      try simp only [Act.put, List.setIfInBounds_toArray, List.set_cons_zero, List.set_cons_succ]
      clear s
      have s := (And.intro (And.intro fl.kb.c0 (And.intro fl.kb.c1 fl.kb.c2)) litB.1)
      refine wpAnyH_strong (S' := (fun w' => (w'.cell? ⟨K, 0, none⟩ = some (.slice a1 n1 c1) ∧ w'.cell? ⟨K, 1, none⟩ = some (.slice a2 n2 c2) ∧ w'.cell? ⟨K, 2, none⟩ = some (.slice a3 n3 c3)) ∧ (LitAt w' JB [0, 0, 1, 1, 2, 3]))) (fun _ h => h.1) ?_
      have hHeld := s
      refine wpAnyH_ready (rs := [6]) (by kernel_rfl) (by simp) ?_
      refine AllReadyH.cons nth6 (fun KK hKK => ?_) ?_
      · clear hHeld s
        go_simp
        go_at_call 58
        refine (pick_any R _ _ _ rd (by omega) (by omega) (by omega)).mono ?_
        rintro e u3 ⟨v1_, v1p, v1q, rfl, r, b⟩
        replace litB := litB.beside b (by omega)
        replace fl := fl.beside b ⟨hh.1, by omega, hB.1, hB.2⟩
        replace rd := r
        clear b r
        clear v1p v1q
        have s := (And.intro (And.intro fl.kb.c0 (And.intro fl.kb.c1 fl.kb.c2)) litB.1)
        refine hKK.out _ _ s (fun hHeld => ?_)
        clear hKK KK hHeld
        try simp only [Act.put, List.setIfInBounds_toArray, List.set_cons_zero, List.set_cons_succ]
        have hHeld := s
        refine wpAnyH_ready (rs := [8]) (by kernel_rfl) (by simp) ?_
        refine AllReadyH.cons nth8 (fun KK hKK => ?_) ?_
        · clear hHeld s
          go_simp
          go_at_call 58
          refine (pick_any R _ _ _ rd (by omega) (by omega) (by omega)).mono ?_
          rintro e u4 ⟨v2_, v2p, v2q, rfl, r, b⟩
          replace litB := litB.beside b (by omega)
          replace fl := fl.beside b ⟨hh.1, by omega, hB.1, hB.2⟩
          replace rd := r
          clear b r
          clear v2p v2q
          have s := (And.intro (And.intro fl.kb.c0 (And.intro fl.kb.c1 fl.kb.c2)) litB.1)
          refine hKK.out _ _ s (fun hHeld => ?_)
          clear hKK KK hHeld
          try simp only [Act.put, List.setIfInBounds_toArray, List.set_cons_zero, List.set_cons_succ]
          have hHeld := s
          refine wpAnyH_ready (rs := [9, 12]) (by kernel_rfl) (by simp) ?_
          refine AllReadyH.cons nth9 (fun KK hKK => ?_) ?_
          · clear hHeld s
            go_simp
            obtain ⟨u5, JA, hu, hJ, gl, litA, gtA, lk, rk⟩ := fl.lits [v1_, v2_, -1, 501] 3 _ rfl
            simp only [List.map_cons, List.map_nil] at hu
            rw [← hu, ← hJ]
            replace fl := gl
            replace litB := lk _ _ litB
            replace rd := rk _ _ rd
            clear hu hJ gl lk rk
            have s := (And.intro (And.intro fl.kb.c0 (And.intro fl.kb.c1 fl.kb.c2)) litB.1)
            refine hKK.out _ _ s (fun hHeld => ?_)
            clear hKK KK hHeld
            try simp only [Act.put, List.setIfInBounds_toArray, List.set_cons_zero, List.set_cons_succ]
            clear s
            have s := (And.intro (And.intro (And.intro fl.kb.c0 (And.intro fl.kb.c1 fl.kb.c2)) litB.1) litA.1)
            refine wpAnyH_strong (S' := (fun w' => ((w'.cell? ⟨K, 0, none⟩ = some (.slice a1 n1 c1) ∧ w'.cell? ⟨K, 1, none⟩ = some (.slice a2 n2 c2) ∧ w'.cell? ⟨K, 2, none⟩ = some (.slice a3 n3 c3)) ∧ (LitAt w' JB [0, 0, 1, 1, 2, 3])) ∧ (LitAt w' JA [v1_, v2_, -1, 501]))) (fun _ h => h.1) ?_
            have hHeld := s
            refine wpAnyH_ready (rs := [12]) (by kernel_rfl) (by simp) ?_
            refine AllReadyH.cons nth12 (fun KK hKK => ?_) ?_
            · clear hHeld s
              go_simp
              go_at_call 58
              refine (pick_any R _ _ _ rd (by omega) (by omega) (by omega)).mono ?_
              rintro e u6 ⟨t_, tp, tq, rfl, r, b⟩
              replace litB := litB.beside b (by omega)
              replace litA := litA.beside b (by omega)
              replace fl := fl.beside b ⟨hh.1, by omega, hB.1, hB.2⟩
              clear b r rd
              obtain ⟨t, rfl⟩ : ∃ t : Nat, t_ = t := ⟨t_.toNat, by omega⟩
              have tl : t < 6 := by omega
              obtain ⟨ix1, ix2⟩ := follow_idx t tl
              generalize hix : (([0, 0, 1, 1, 2, 3] : List Int).getD t 0).toNat = ix at ix1 ix2
              clear hix
              have ix3 : (ix : Int) < 4 := by omega
              obtain ⟨n, hn⟩ : ∃ n, ([v1_, v2_, -1, 501] : List Int).getD ix 0 = n := ⟨_, rfl⟩
              have s := (And.intro (And.intro (And.intro fl.kb.c0 (And.intro fl.kb.c1 fl.kb.c2)) litB.1) litA.1)
              refine hKK.out _ _ s (fun hHeld => ?_)
              clear hKK KK hHeld
              try simp only [Act.put, List.setIfInBounds_toArray, List.set_cons_zero, List.set_cons_succ]
              have hHeld := s
              refine wpAnyH_take (i := 13) (v := ?vr1y128x13) nth13 (by kernel_rfl) (by kernel_rfl) (by kernel_rfl) (fun _ _ _ h => h) (Or.inl ⟨by rfl, ?hyr1y128x13⟩) hHeld ?_
              case hyr1y128x13 => (intro wH hSw; (try dsimp only at hSw); go_simp; (try with_reducible rfl))
              simp only [Act.put, List.setIfInBounds_toArray, List.set_cons_zero, List.set_cons_succ]
              refine wpAnyH_take (i := 14) (v := .int .i64 (ix : Int)) nth14 (by kernel_rfl) (by kernel_rfl) (by kernel_rfl) (fun _ _ _ h => h) (Or.inl ⟨by rfl, ?hyr1y129x14⟩) hHeld ?_
              case hyr1y129x14 => (intro wH hSw; have hc := hSw.1.2 t (by simp; omega); rw [ix1] at hc; clear hSw; go_simp)
              simp only [Act.put, List.setIfInBounds_toArray, List.set_cons_zero, List.set_cons_succ]
              refine wpAnyH_take (i := 15) (v := ?vr1y130x15) nth15 (by kernel_rfl) (by kernel_rfl) (by kernel_rfl) (fun _ _ _ h => h) (Or.inl ⟨by rfl, ?hyr1y130x15⟩) hHeld ?_
              case hyr1y130x15 => (intro wH hSw; (try dsimp only at hSw); go_simp; (try with_reducible rfl))
              simp only [Act.put, List.setIfInBounds_toArray, List.set_cons_zero, List.set_cons_succ]
              refine wpAnyH_take (i := 16) (v := .int .i64 n) nth16 (by kernel_rfl) (by kernel_rfl) (by kernel_rfl) (fun _ _ _ h => h) (Or.inl ⟨by rfl, ?hyr1y131x16⟩) hHeld ?_
              case hyr1y131x16 => (intro wH hSw; have hc := hSw.2 ix (by simp; omega); rw [hn] at hc; clear hSw; go_simp)
              simp only [Act.put, List.setIfInBounds_toArray, List.set_cons_zero, List.set_cons_succ]
              refine wpAnyH_ready (rs := [17]) (by kernel_rfl) (by simp) ?_
              refine AllReadyH.cons nth17 (fun KK hKK => ?_) ?_
              · clear hHeld s
                obtain ⟨a1_, a2_, a3_, a4_, a5_, a6_⟩ := fl.kr
                replace hn := Lib.hid hn
                replace ix1 := Lib.hid ix1
                go_simp
                replace hn := hn.out
                replace ix1 := ix1.out
                clear a1_ a2_ a3_ a4_ a5_ a6_
                obtain ⟨u7, hu, gl, lk⟩ := fl.store1
                rw [← hu]
                replace fl := gl
                replace litB := lk _ _ (by omega) litB
                replace litA := lk _ _ (by omega) litA
                clear hu gl lk
                have s := (And.intro (And.intro (And.intro fl.kb.c0 (And.intro fl.kb.c1 fl.kb.c2)) litB.1) litA.1)
                refine hKK.out _ _ s (fun hHeld => ?_)
                clear hKK KK hHeld
                try simp only [Act.put, List.setIfInBounds_toArray, List.set_cons_zero, List.set_cons_succ]
                have hHeld := s
                refine wpAnyH_take (i := 18) (v := ?vr1y132x18) nth18 (by kernel_rfl) (by kernel_rfl) (by kernel_rfl) (fun _ _ _ h => h) (Or.inl ⟨by rfl, ?hyr1y132x18⟩) hHeld ?_
                case hyr1y132x18 => (intro wH hSw; (try dsimp only at hSw); go_simp; (try with_reducible rfl))
                simp only [Act.put, List.setIfInBounds_toArray, List.set_cons_zero, List.set_cons_succ]
                refine wpAnyH_ready (rs := [19]) (by kernel_rfl) (by simp) ?_
                refine AllReadyH.cons nth19 (fun KK hKK => ?_) ?_
                · clear hHeld s
                  obtain ⟨a1_, a2_, a3_, a4_, a5_⟩ := fl.hs
                  replace hn := Lib.hid hn
                  replace ix1 := Lib.hid ix1
                  go_simp
                  replace hn := hn.out
                  replace ix1 := ix1.out
                  clear a1_ a2_ a3_ a4_ a5_
                  obtain ⟨u8, hu, gl, lk⟩ := fl.store2 X Y
                  rw [← hu]
                  replace fl := gl
                  replace litB := lk _ _ (by omega) litB
                  replace litA := lk _ _ (by omega) litA
                  clear hu gl lk
                  have s := (And.intro (And.intro (And.intro fl.kb.c0 (And.intro fl.kb.c1 fl.kb.c2)) litB.1) litA.1)
                  refine hKK.out _ _ s (fun hHeld => ?_)
                  clear hKK KK hHeld
                  try simp only [Act.put, List.setIfInBounds_toArray, List.set_cons_zero, List.set_cons_succ]
                  have hHeld := s
                  refine wpAnyH_take (i := 20) (v := ?vr1y133x20) nth20 (by kernel_rfl) (by kernel_rfl) (by kernel_rfl) (fun _ _ _ h => h) (Or.inl ⟨by rfl, ?hyr1y133x20⟩) hHeld ?_
                  case hyr1y133x20 => (intro wH hSw; (try dsimp only at hSw); go_simp; (try with_reducible rfl))
                  simp only [Act.put, List.setIfInBounds_toArray, List.set_cons_zero, List.set_cons_succ]
                  refine wpAnyH_done (by kernel_rfl) ?_ _
                  clear hHeld s
                  obtain ⟨a1_, a2_, a3_, a4_, a5_, a6_⟩ := fl.kr
                  obtain ⟨b1_, b2_, b3_, b4_, b5_⟩ := fl.hs
                  go_wp2_with fail
                  exact bodyPost_ret (v := .tuple #[.agg #[.slice a1 n1 c1, .slice a2 n2 c2, .slice a3 n3 c3], .slice aj nj cj, .agg #[.int .i64 X, .int .i64 Y], .int .i64 n]) (by simp [results, Tryd.results30, go_sem, a1_, a2_, a3_, b1_, b2_]) rfl ⟨a1, n1, c1, a2, n2, c2, a3, n3, c3, l, lo, hi, aj, nj, cj, J, X, Y, n, rfl, fl.hf.base (by omega), ⟨hj1.out, by omega, hj3.out, fl.hj.base (by omega)⟩, fl.q⟩
                exact AllReadyH.nil
              exact AllReadyH.nil
            exact AllReadyH.nil
          refine AllReadyH.cons nth12 (fun KK hKK => ?_) ?_
          · clear hHeld s
            go_simp
            go_at_call 58
            refine (pick_any R _ _ _ rd (by omega) (by omega) (by omega)).mono ?_
            rintro e u5 ⟨t_, tp, tq, rfl, r, b⟩
            replace litB := litB.beside b (by omega)
            replace fl := fl.beside b ⟨hh.1, by omega, hB.1, hB.2⟩
            clear b r rd
            obtain ⟨t, rfl⟩ : ∃ t : Nat, t_ = t := ⟨t_.toNat, by omega⟩
            have tl : t < 6 := by omega
            obtain ⟨ix1, ix2⟩ := follow_idx t tl
            generalize hix : (([0, 0, 1, 1, 2, 3] : List Int).getD t 0).toNat = ix at ix1 ix2
            clear hix
            have ix3 : (ix : Int) < 4 := by omega
            obtain ⟨n, hn⟩ : ∃ n, ([v1_, v2_, -1, 501] : List Int).getD ix 0 = n := ⟨_, rfl⟩
            have s := (And.intro (And.intro fl.kb.c0 (And.intro fl.kb.c1 fl.kb.c2)) litB.1)
            refine hKK.out _ _ s (fun hHeld => ?_)
            clear hKK KK hHeld
            try simp only [Act.put, List.setIfInBounds_toArray, List.set_cons_zero, List.set_cons_succ]
            have hHeld := s
            refine wpAnyH_take (i := 13) (v := ?vr1y134x13) nth13 (by kernel_rfl) (by kernel_rfl) (by kernel_rfl) (fun _ _ _ h => h) (Or.inl ⟨by rfl, ?hyr1y134x13⟩) hHeld ?_
            case hyr1y134x13 => (intro wH hSw; (try dsimp only at hSw); go_simp; (try with_reducible rfl))
            simp only [Act.put, List.setIfInBounds_toArray, List.set_cons_zero, List.set_cons_succ]
            refine wpAnyH_take (i := 14) (v := .int .i64 (ix : Int)) nth14 (by kernel_rfl) (by kernel_rfl) (by kernel_rfl) (fun _ _ _ h => h) (Or.inl ⟨by rfl, ?hyr1y135x14⟩) hHeld ?_
            case hyr1y135x14 => (intro wH hSw; have hc := hSw.2 t (by simp; omega); rw [ix1] at hc; clear hSw; go_simp)
            simp only [Act.put, List.setIfInBounds_toArray, List.set_cons_zero, List.set_cons_succ]
            refine wpAnyH_ready (rs := [9, 17]) (by kernel_rfl) (by simp) ?_
            refine AllReadyH.cons nth9 (fun KK hKK => ?_) ?_
            · clear hHeld s
              go_simp
              obtain ⟨u6, JA, hu, hJ, gl, litA, gtA, lk, rk⟩ := fl.lits [v1_, v2_, -1, 501] 3 _ rfl
              simp only [List.map_cons, List.map_nil] at hu
              rw [← hu, ← hJ]
              replace fl := gl
              replace litB := lk _ _ litB
              clear hu hJ gl lk rk
              have s := (And.intro (And.intro fl.kb.c0 (And.intro fl.kb.c1 fl.kb.c2)) litB.1)
              refine hKK.out _ _ s (fun hHeld => ?_)
              clear hKK KK hHeld
              try simp only [Act.put, List.setIfInBounds_toArray, List.set_cons_zero, List.set_cons_succ]
              clear s
              have s := (And.intro (And.intro (And.intro fl.kb.c0 (And.intro fl.kb.c1 fl.kb.c2)) litB.1) litA.1)
              refine wpAnyH_strong (S' := (fun w' => ((w'.cell? ⟨K, 0, none⟩ = some (.slice a1 n1 c1) ∧ w'.cell? ⟨K, 1, none⟩ = some (.slice a2 n2 c2) ∧ w'.cell? ⟨K, 2, none⟩ = some (.slice a3 n3 c3)) ∧ (LitAt w' JB [0, 0, 1, 1, 2, 3])) ∧ (LitAt w' JA [v1_, v2_, -1, 501]))) (fun _ h => h.1) ?_
              have hHeld := s
              refine wpAnyH_take (i := 15) (v := ?vr1y136x15) nth15 (by kernel_rfl) (by kernel_rfl) (by kernel_rfl) (fun _ _ _ h => h) (Or.inl ⟨by rfl, ?hyr1y136x15⟩) hHeld ?_
              case hyr1y136x15 => (intro wH hSw; (try dsimp only at hSw); go_simp; (try with_reducible rfl))
              simp only [Act.put, List.setIfInBounds_toArray, List.set_cons_zero, List.set_cons_succ]
              refine wpAnyH_take (i := 16) (v := .int .i64 n) nth16 (by kernel_rfl) (by kernel_rfl) (by kernel_rfl) (fun _ _ _ h => h) (Or.inl ⟨by rfl, ?hyr1y137x16⟩) hHeld ?_
              case hyr1y137x16 => (intro wH hSw; have hc := hSw.2 ix (by simp; omega); rw [hn] at hc; clear hSw; go_simp)
              simp only [Act.put, List.setIfInBounds_toArray, List.set_cons_zero, List.set_cons_succ]
              refine wpAnyH_ready (rs := [17]) (by kernel_rfl) (by simp) ?_
              refine AllReadyH.cons nth17 (fun KK hKK => ?_) ?_
              · clear hHeld s
                obtain ⟨a1_, a2_, a3_, a4_, a5_, a6_⟩ := fl.kr
                replace hn := Lib.hid hn
                replace ix1 := Lib.hid ix1
                go_simp
                replace hn := hn.out
                replace ix1 := ix1.out
                clear a1_ a2_ a3_ a4_ a5_ a6_
                obtain ⟨u7, hu, gl, lk⟩ := fl.store1
                rw [← hu]
                replace fl := gl
                replace litB := lk _ _ (by omega) litB
                replace litA := lk _ _ (by omega) litA
                clear hu gl lk
                have s := (And.intro (And.intro (And.intro fl.kb.c0 (And.intro fl.kb.c1 fl.kb.c2)) litB.1) litA.1)
                refine hKK.out _ _ s (fun hHeld => ?_)
                clear hKK KK hHeld
                try simp only [Act.put, List.setIfInBounds_toArray, List.set_cons_zero, List.set_cons_succ]
                have hHeld := s
                refine wpAnyH_take (i := 18) (v := ?vr1y138x18) nth18 (by kernel_rfl) (by kernel_rfl) (by kernel_rfl) (fun _ _ _ h => h) (Or.inl ⟨by rfl, ?hyr1y138x18⟩) hHeld ?_
                case hyr1y138x18 => (intro wH hSw; (try dsimp only at hSw); go_simp; (try with_reducible rfl))
                simp only [Act.put, List.setIfInBounds_toArray, List.set_cons_zero, List.set_cons_succ]
                refine wpAnyH_ready (rs := [19]) (by kernel_rfl) (by simp) ?_
                refine AllReadyH.cons nth19 (fun KK hKK => ?_) ?_
                · clear hHeld s
                  obtain ⟨a1_, a2_, a3_, a4_, a5_⟩ := fl.hs
                  replace hn := Lib.hid hn
                  replace ix1 := Lib.hid ix1
                  go_simp
                  replace hn := hn.out
                  replace ix1 := ix1.out
                  clear a1_ a2_ a3_ a4_ a5_
                  obtain ⟨u8, hu, gl, lk⟩ := fl.store2 X Y
                  rw [← hu]
                  replace fl := gl
                  replace litB := lk _ _ (by omega) litB
                  replace litA := lk _ _ (by omega) litA
                  clear hu gl lk
                  have s := (And.intro (And.intro (And.intro fl.kb.c0 (And.intro fl.kb.c1 fl.kb.c2)) litB.1) litA.1)
                  refine hKK.out _ _ s (fun hHeld => ?_)
                  clear hKK KK hHeld
                  try simp only [Act.put, List.setIfInBounds_toArray, List.set_cons_zero, List.set_cons_succ]
                  have hHeld := s
                  refine wpAnyH_take (i := 20) (v := ?vr1y139x20) nth20 (by kernel_rfl) (by kernel_rfl) (by kernel_rfl) (fun _ _ _ h => h) (Or.inl ⟨by rfl, ?hyr1y139x20⟩) hHeld ?_
                  case hyr1y139x20 => (intro wH hSw; (try dsimp only at hSw); go_simp; (try with_reducible rfl))
                  simp only [Act.put, List.setIfInBounds_toArray, List.set_cons_zero, List.set_cons_succ]
                  refine wpAnyH_done (by kernel_rfl) ?_ _
                  clear hHeld s
                  obtain ⟨a1_, a2_, a3_, a4_, a5_, a6_⟩ := fl.kr
                  obtain ⟨b1_, b2_, b3_, b4_, b5_⟩ := fl.hs
                  go_wp2_with fail
                  exact bodyPost_ret (v := .tuple #[.agg #[.slice a1 n1 c1, .slice a2 n2 c2, .slice a3 n3 c3], .slice aj nj cj, .agg #[.int .i64 X, .int .i64 Y], .int .i64 n]) (by simp [results, Tryd.results30, go_sem, a1_, a2_, a3_, b1_, b2_]) rfl ⟨a1, n1, c1, a2, n2, c2, a3, n3, c3, l, lo, hi, aj, nj, cj, J, X, Y, n, rfl, fl.hf.base (by omega), ⟨hj1.out, by omega, hj3.out, fl.hj.base (by omega)⟩, fl.q⟩
                exact AllReadyH.nil
              exact AllReadyH.nil
            refine AllReadyH.cons nth17 (fun KK hKK => ?_) ?_
            · clear hHeld s
              obtain ⟨a1_, a2_, a3_, a4_, a5_, a6_⟩ := fl.kr
              replace hn := Lib.hid hn
              replace ix1 := Lib.hid ix1
              go_simp
              replace hn := hn.out
              replace ix1 := ix1.out
              clear a1_ a2_ a3_ a4_ a5_ a6_
              obtain ⟨u6, hu, gl, lk⟩ := fl.store1
              rw [← hu]
              replace fl := gl
              replace litB := lk _ _ (by omega) litB
              clear hu gl lk
              have s := (And.intro (And.intro fl.kb.c0 (And.intro fl.kb.c1 fl.kb.c2)) litB.1)
              refine hKK.out _ _ s (fun hHeld => ?_)
              clear hKK KK hHeld
              try simp only [Act.put, List.setIfInBounds_toArray, List.set_cons_zero, List.set_cons_succ]
              have hHeld := s
              refine wpAnyH_take (i := 18) (v := ?vr1y140x18) nth18 (by kernel_rfl) (by kernel_rfl) (by kernel_rfl) (fun _ _ _ h => h) (Or.inl ⟨by rfl, ?hyr1y140x18⟩) hHeld ?_
              case hyr1y140x18 => (intro wH hSw; (try dsimp only at hSw); go_simp; (try with_reducible rfl))
              simp only [Act.put, List.setIfInBounds_toArray, List.set_cons_zero, List.set_cons_succ]
              refine wpAnyH_ready (rs := [9, 19]) (by kernel_rfl) (by simp) ?_
              refine AllReadyH.cons nth9 (fun KK hKK => ?_) ?_
              · clear hHeld s
                go_simp
                obtain ⟨u7, JA, hu, hJ, gl, litA, gtA, lk, rk⟩ := fl.lits [v1_, v2_, -1, 501] 3 _ rfl
                simp only [List.map_cons, List.map_nil] at hu
                rw [← hu, ← hJ]
                replace fl := gl
                replace litB := lk _ _ litB
                clear hu hJ gl lk rk
                have s := (And.intro (And.intro fl.kb.c0 (And.intro fl.kb.c1 fl.kb.c2)) litB.1)
                refine hKK.out _ _ s (fun hHeld => ?_)
                clear hKK KK hHeld
                try simp only [Act.put, List.setIfInBounds_toArray, List.set_cons_zero, List.set_cons_succ]
                clear s
                have s := (And.intro (And.intro (And.intro fl.kb.c0 (And.intro fl.kb.c1 fl.kb.c2)) litB.1) litA.1)
                refine wpAnyH_strong (S' := (fun w' => ((w'.cell? ⟨K, 0, none⟩ = some (.slice a1 n1 c1) ∧ w'.cell? ⟨K, 1, none⟩ = some (.slice a2 n2 c2) ∧ w'.cell? ⟨K, 2, none⟩ = some (.slice a3 n3 c3)) ∧ (LitAt w' JB [0, 0, 1, 1, 2, 3])) ∧ (LitAt w' JA [v1_, v2_, -1, 501]))) (fun _ h => h.1) ?_
                have hHeld := s
                refine wpAnyH_take (i := 15) (v := ?vr1y141x15) nth15 (by kernel_rfl) (by kernel_rfl) (by kernel_rfl) (fun _ _ _ h => h) (Or.inl ⟨by rfl, ?hyr1y141x15⟩) hHeld ?_
                case hyr1y141x15 => (intro wH hSw; (try dsimp only at hSw); go_simp; (try with_reducible rfl))
                simp only [Act.put, List.setIfInBounds_toArray, List.set_cons_zero, List.set_cons_succ]
                refine wpAnyH_take (i := 16) (v := .int .i64 n) nth16 (by kernel_rfl) (by kernel_rfl) (by kernel_rfl) (fun _ _ _ h => h) (Or.inl ⟨by rfl, ?hyr1y142x16⟩) hHeld ?_
                case hyr1y142x16 => (intro wH hSw; have hc := hSw.2 ix (by simp; omega); rw [hn] at hc; clear hSw; go_simp)
                simp only [Act.put, List.setIfInBounds_toArray, List.set_cons_zero, List.set_cons_succ]
                refine wpAnyH_ready (rs := [19]) (by kernel_rfl) (by simp) ?_
                refine AllReadyH.cons nth19 (fun KK hKK => ?_) ?_
                · clear hHeld s
                  obtain ⟨a1_, a2_, a3_, a4_, a5_⟩ := fl.hs
                  replace hn := Lib.hid hn
                  replace ix1 := Lib.hid ix1
                  go_simp
                  replace hn := hn.out
                  replace ix1 := ix1.out
                  clear a1_ a2_ a3_ a4_ a5_
                  obtain ⟨u8, hu, gl, lk⟩ := fl.store2 X Y
                  rw [← hu]
                  replace fl := gl
                  replace litB := lk _ _ (by omega) litB
                  replace litA := lk _ _ (by omega) litA
                  clear hu gl lk
                  have s := (And.intro (And.intro (And.intro fl.kb.c0 (And.intro fl.kb.c1 fl.kb.c2)) litB.1) litA.1)
                  refine hKK.out _ _ s (fun hHeld => ?_)
                  clear hKK KK hHeld
                  try simp only [Act.put, List.setIfInBounds_toArray, List.set_cons_zero, List.set_cons_succ]
                  have hHeld := s
                  refine wpAnyH_take (i := 20) (v := ?vr1y143x20) nth20 (by kernel_rfl) (by kernel_rfl) (by kernel_rfl) (fun _ _ _ h => h) (Or.inl ⟨by rfl, ?hyr1y143x20⟩) hHeld ?_
                  case hyr1y143x20 => (intro wH hSw; (try dsimp only at hSw); go_simp; (try with_reducible rfl))
                  simp only [Act.put, List.setIfInBounds_toArray, List.set_cons_zero, List.set_cons_succ]
                  refine wpAnyH_done (by kernel_rfl) ?_ _
                  clear hHeld s
                  obtain ⟨a1_, a2_, a3_, a4_, a5_, a6_⟩ := fl.kr
                  obtain ⟨b1_, b2_, b3_, b4_, b5_⟩ := fl.hs
                  go_wp2_with fail
                  exact bodyPost_ret (v := .tuple #[.agg #[.slice a1 n1 c1, .slice a2 n2 c2, .slice a3 n3 c3], .slice aj nj cj, .agg #[.int .i64 X, .int .i64 Y], .int .i64 n]) (by simp [results, Tryd.results30, go_sem, a1_, a2_, a3_, b1_, b2_]) rfl ⟨a1, n1, c1, a2, n2, c2, a3, n3, c3, l, lo, hi, aj, nj, cj, J, X, Y, n, rfl, fl.hf.base (by omega), ⟨hj1.out, by omega, hj3.out, fl.hj.base (by omega)⟩, fl.q⟩
                exact AllReadyH.nil
              refine AllReadyH.cons nth19 (fun KK hKK => ?_) ?_
              · clear hHeld s
                obtain ⟨a1_, a2_, a3_, a4_, a5_⟩ := fl.hs
                replace hn := Lib.hid hn
                replace ix1 := Lib.hid ix1
                go_simp
                replace hn := hn.out
                replace ix1 := ix1.out
                clear a1_ a2_ a3_ a4_ a5_
                obtain ⟨u7, hu, gl, lk⟩ := fl.store2 X Y
                rw [← hu]
                replace fl := gl
                replace litB := lk _ _ (by omega) litB
                clear hu gl lk
                have s := (And.intro (And.intro fl.kb.c0 (And.intro fl.kb.c1 fl.kb.c2)) litB.1)
                refine hKK.out _ _ s (fun hHeld => ?_)
                clear hKK KK hHeld
                try simp only [Act.put, List.setIfInBounds_toArray, List.set_cons_zero, List.set_cons_succ]
                have hHeld := s
                refine wpAnyH_ready (rs := [9]) (by kernel_rfl) (by simp) ?_
                refine AllReadyH.cons nth9 (fun KK hKK => ?_) ?_
                · clear hHeld s
                  go_simp
                  obtain ⟨u8, JA, hu, hJ, gl, litA, gtA, lk, rk⟩ := fl.lits [v1_, v2_, -1, 501] 3 _ rfl
                  simp only [List.map_cons, List.map_nil] at hu
                  rw [← hu, ← hJ]
                  replace fl := gl
                  replace litB := lk _ _ litB
                  clear hu hJ gl lk rk
                  have s := (And.intro (And.intro fl.kb.c0 (And.intro fl.kb.c1 fl.kb.c2)) litB.1)
                  refine hKK.out _ _ s (fun hHeld => ?_)
                  clear hKK KK hHeld
                  try simp only [Act.put, List.setIfInBounds_toArray, List.set_cons_zero, List.set_cons_succ]
                  clear s
                  have s := (And.intro (And.intro (And.intro fl.kb.c0 (And.intro fl.kb.c1 fl.kb.c2)) litB.1) litA.1)
                  refine wpAnyH_strong (S' := (fun w' => ((w'.cell? ⟨K, 0, none⟩ = some (.slice a1 n1 c1) ∧ w'.cell? ⟨K, 1, none⟩ = some (.slice a2 n2 c2) ∧ w'.cell? ⟨K, 2, none⟩ = some (.slice a3 n3 c3)) ∧ (LitAt w' JB [0, 0, 1, 1, 2, 3])) ∧ (LitAt w' JA [v1_, v2_, -1, 501]))) (fun _ h => h.1) ?_
                  have hHeld := s
                  refine wpAnyH_take (i := 15) (v := ?vr1y144x15) nth15 (by kernel_rfl) (by kernel_rfl) (by kernel_rfl) (fun _ _ _ h => h) (Or.inl ⟨by rfl, ?hyr1y144x15⟩) hHeld ?_
                  case hyr1y144x15 => (intro wH hSw; (try dsimp only at hSw); go_simp; (try with_reducible rfl))
                  simp only [Act.put, List.setIfInBounds_toArray, List.set_cons_zero, List.set_cons_succ]
                  refine wpAnyH_take (i := 16) (v := .int .i64 n) nth16 (by kernel_rfl) (by kernel_rfl) (by kernel_rfl) (fun _ _ _ h => h) (Or.inl ⟨by rfl, ?hyr1y145x16⟩) hHeld ?_
                  case hyr1y145x16 => (intro wH hSw; have hc := hSw.2 ix (by simp; omega); rw [hn] at hc; clear hSw; go_simp)
                  simp only [Act.put, List.setIfInBounds_toArray, List.set_cons_zero, List.set_cons_succ]
                  refine wpAnyH_take (i := 20) (v := ?vr1y146x20) nth20 (by kernel_rfl) (by kernel_rfl) (by kernel_rfl) (fun _ _ _ h => h) (Or.inl ⟨by rfl, ?hyr1y146x20⟩) hHeld ?_
                  case hyr1y146x20 => (intro wH hSw; (try dsimp only at hSw); go_simp; (try with_reducible rfl))
                  simp only [Act.put, List.setIfInBounds_toArray, List.set_cons_zero, List.set_cons_succ]
                  refine wpAnyH_done (by kernel_rfl) ?_ _
                  clear hHeld s
                  obtain ⟨a1_, a2_, a3_, a4_, a5_, a6_⟩ := fl.kr
                  obtain ⟨b1_, b2_, b3_, b4_, b5_⟩ := fl.hs
                  go_wp2_with fail
                  exact bodyPost_ret (v := .tuple #[.agg #[.slice a1 n1 c1, .slice a2 n2 c2, .slice a3 n3 c3], .slice aj nj cj, .agg #[.int .i64 X, .int .i64 Y], .int .i64 n]) (by simp [results, Tryd.results30, go_sem, a1_, a2_, a3_, b1_, b2_]) rfl ⟨a1, n1, c1, a2, n2, c2, a3, n3, c3, l, lo, hi, aj, nj, cj, J, X, Y, n, rfl, fl.hf.base (by omega), ⟨hj1.out, by omega, hj3.out, fl.hj.base (by omega)⟩, fl.q⟩
                exact AllReadyH.nil
              exact AllReadyH.nil
            exact AllReadyH.nil
          exact AllReadyH.nil
        exact AllReadyH.nil
      exact AllReadyH.nil
    exact AllReadyH.nil
  refine AllReadyH.cons nth10 (fun KK hKK => ?_) ?_
  · clear hHeld s
    go_simp
    obtain ⟨u1, JB, hu, hJ, gl, litB, gtB, lk, rk⟩ := fl.lits [0, 0, 1, 1, 2, 3] 3 _ rfl
    simp only [List.map_cons, List.map_nil] at hu
    rw [← hu, ← hJ]
    replace fl := gl
    replace rd := rk _ _ rd
    clear hu hJ gl lk rk
    have s := (And.intro fl.kb.c0 (And.intro fl.kb.c1 fl.kb.c2))
    refine hKK.out _ _ s (fun hHeld => ?_)
    clear hKK KK hHeld
    try simp only [Act.put, List.setIfInBounds_toArray, List.set_cons_zero, List.set_cons_succ]
    clear s
    have s := (And.intro (And.intro fl.kb.c0 (And.intro fl.kb.c1 fl.kb.c2)) litB.1)
    refine wpAnyH_strong (S' := (fun w' => (w'.cell? ⟨K, 0, none⟩ = some (.slice a1 n1 c1) ∧ w'.cell? ⟨K, 1, none⟩ = some (.slice a2 n2 c2) ∧ w'.cell? ⟨K, 2, none⟩ = some (.slice a3 n3 c3)) ∧ (LitAt w' JB [0, 0, 1, 1, 2, 3]))) (fun _ h => h.1) ?_
    have hHeld := s
    refine wpAnyH_ready (rs := [4]) (by kernel_rfl) (by simp) ?_
    refine AllReadyH.cons nth4 (fun KK hKK => ?_) ?_
    · clear hHeld s
      go_simp
      go_at_call 35
      refine (l20_target R _ _ a1 a2 a3 n1 c1 n2 c2 n3 c3 l lo hi _ rd (by omega) hB.1 fl.hf.draw).mono ?_
      rintro e u2 ⟨X, Y, rfl, r, b⟩
      replace litB := litB.beside b (by omega)
      replace fl := fl.beside b ⟨hh.1, by omega, hB.1, hB.2⟩
      replace rd := r
      clear b r
      have s := (And.intro (And.intro fl.kb.c0 (And.intro fl.kb.c1 fl.kb.c2)) litB.1)
      refine hKK.out _ _ s (fun hHeld => ?_)
      clear hKK KK hHeld
      try simp only [Act.put, List.setIfInBounds_toArray, List.set_cons_zero, List.set_cons_succ]
      have hHeld := s
      refine wpAnyH_ready (rs := [6]) (by kernel_rfl) (by simp) ?_
      refine AllReadyH.cons nth6 (fun KK hKK => ?_) ?_
      · clear hHeld s
        go_simp
        go_at_call 58
        refine (pick_any R _ _ _ rd (by omega) (by omega) (by omega)).mono ?_
        rintro e u3 ⟨v1_, v1p, v1q, rfl, r, b⟩
        replace litB := litB.beside b (by omega)
        replace fl := fl.beside b ⟨hh.1, by omega, hB.1, hB.2⟩
        replace rd := r
        clear b r
        clear v1p v1q
        have s := (And.intro (And.intro fl.kb.c0 (And.intro fl.kb.c1 fl.kb.c2)) litB.1)
        refine hKK.out _ _ s (fun hHeld => ?_)
        clear hKK KK hHeld
        try simp only [Act.put, List.setIfInBounds_toArray, List.set_cons_zero, List.set_cons_succ]
        have hHeld := s
        refine wpAnyH_ready (rs := [8]) (by kernel_rfl) (by simp) ?_
        refine AllReadyH.cons nth8 (fun KK hKK => ?_) ?_
        · clear hHeld s
          go_simp
          go_at_call 58
          refine (pick_any R _ _ _ rd (by omega) (by omega) (by omega)).mono ?_
          rintro e u4 ⟨v2_, v2p, v2q, rfl, r, b⟩
          replace litB := litB.beside b (by omega)
          replace fl := fl.beside b ⟨hh.1, by omega, hB.1, hB.2⟩
          replace rd := r
          clear b r
          clear v2p v2q
          have s := (And.intro (And.intro fl.kb.c0 (And.intro fl.kb.c1 fl.kb.c2)) litB.1)
          refine hKK.out _ _ s (fun hHeld => ?_)
          clear hKK KK hHeld
          try simp only [Act.put, List.setIfInBounds_toArray, List.set_cons_zero, List.set_cons_succ]
          have hHeld := s
          refine wpAnyH_ready (rs := [9, 12]) (by kernel_rfl) (by simp) ?_
          refine AllReadyH.cons nth9 (fun KK hKK => ?_) ?_
          · clear hHeld s
            go_simp
            obtain ⟨u5, JA, hu, hJ, gl, litA, gtA, lk, rk⟩ := fl.lits [v1_, v2_, -1, 501] 3 _ rfl
            simp only [List.map_cons, List.map_nil] at hu
            rw [← hu, ← hJ]
            replace fl := gl
            replace litB := lk _ _ litB
            replace rd := rk _ _ rd
            clear hu hJ gl lk rk
            have s := (And.intro (And.intro fl.kb.c0 (And.intro fl.kb.c1 fl.kb.c2)) litB.1)
            refine hKK.out _ _ s (fun hHeld => ?_)
            clear hKK KK hHeld
            try simp only [Act.put, List.setIfInBounds_toArray, List.set_cons_zero, List.set_cons_succ]
            clear s
            have s := (And.intro (And.intro (And.intro fl.kb.c0 (And.intro fl.kb.c1 fl.kb.c2)) litB.1) litA.1)
            refine wpAnyH_strong (S' := (fun w' => ((w'.cell? ⟨K, 0, none⟩ = some (.slice a1 n1 c1) ∧ w'.cell? ⟨K, 1, none⟩ = some (.slice a2 n2 c2) ∧ w'.cell? ⟨K, 2, none⟩ = some (.slice a3 n3 c3)) ∧ (LitAt w' JB [0, 0, 1, 1, 2, 3])) ∧ (LitAt w' JA [v1_, v2_, -1, 501]))) (fun _ h => h.1) ?_
            have hHeld := s
            refine wpAnyH_ready (rs := [12]) (by kernel_rfl) (by simp) ?_
            refine AllReadyH.cons nth12 (fun KK hKK => ?_) ?_
            · clear hHeld s
              go_simp
              go_at_call 58
              refine (pick_any R _ _ _ rd (by omega) (by omega) (by omega)).mono ?_
              rintro e u6 ⟨t_, tp, tq, rfl, r, b⟩
              replace litB := litB.beside b (by omega)
              replace litA := litA.beside b (by omega)
              replace fl := fl.beside b ⟨hh.1, by omega, hB.1, hB.2⟩
              clear b r rd
              obtain ⟨t, rfl⟩ : ∃ t : Nat, t_ = t := ⟨t_.toNat, by omega⟩
              have tl : t < 6 := by omega
              obtain ⟨ix1, ix2⟩ := follow_idx t tl
              generalize hix : (([0, 0, 1, 1, 2, 3] : List Int).getD t 0).toNat = ix at ix1 ix2
              clear hix
              have ix3 : (ix : Int) < 4 := by omega
              obtain ⟨n, hn⟩ : ∃ n, ([v1_, v2_, -1, 501] : List Int).getD ix 0 = n := ⟨_, rfl⟩
              have s := (And.intro (And.intro (And.intro fl.kb.c0 (And.intro fl.kb.c1 fl.kb.c2)) litB.1) litA.1)
              refine hKK.out _ _ s (fun hHeld => ?_)
              clear hKK KK hHeld
              try simp only [Act.put, List.setIfInBounds_toArray, List.set_cons_zero, List.set_cons_succ]
              have hHeld := s
              refine wpAnyH_take (i := 13) (v := ?vr1y147x13) nth13 (by kernel_rfl) (by kernel_rfl) (by kernel_rfl) (fun _ _ _ h => h) (Or.inl ⟨by rfl, ?hyr1y147x13⟩) hHeld ?_
              case hyr1y147x13 => (intro wH hSw; (try dsimp only at hSw); go_simp; (try with_reducible rfl))
              simp only [Act.put, List.setIfInBounds_toArray, List.set_cons_zero, List.set_cons_succ]
              refine wpAnyH_take (i := 14) (v := .int .i64 (ix : Int)) nth14 (by kernel_rfl) (by kernel_rfl) (by kernel_rfl) (fun _ _ _ h => h) (Or.inl ⟨by rfl, ?hyr1y148x14⟩) hHeld ?_
              case hyr1y148x14 => (intro wH hSw; have hc := hSw.1.2 t (by simp; omega); rw [ix1] at hc; clear hSw; go_simp)
              simp only [Act.put, List.setIfInBounds_toArray, List.set_cons_zero, List.set_cons_succ]
              refine wpAnyH_take (i := 15) (v := ?vr1y149x15) nth15 (by kernel_rfl) (by kernel_rfl) (by kernel_rfl) (fun _ _ _ h => h) (Or.inl ⟨by rfl, ?hyr1y149x15⟩) hHeld ?_
              case hyr1y149x15 => (intro wH hSw; (try dsimp only at hSw); go_simp; (try with_reducible rfl))
              simp only [Act.put, List.setIfInBounds_toArray, List.set_cons_zero, List.set_cons_succ]
              refine wpAnyH_take (i := 16) (v := .int .i64 n) nth16 (by kernel_rfl) (by kernel_rfl) (by kernel_rfl) (fun _ _ _ h => h) (Or.inl ⟨by rfl, ?hyr1y150x16⟩) hHeld ?_
              case hyr1y150x16 => (intro wH hSw; have hc := hSw.2 ix (by simp; omega); rw [hn] at hc; clear hSw; go_simp)
              simp only [Act.put, List.setIfInBounds_toArray, List.set_cons_zero, List.set_cons_succ]
              refine wpAnyH_ready (rs := [17]) (by kernel_rfl) (by simp) ?_
              refine AllReadyH.cons nth17 (fun KK hKK => ?_) ?_
              · clear hHeld s
                obtain ⟨a1_, a2_, a3_, a4_, a5_, a6_⟩ := fl.kr
                replace hn := Lib.hid hn
                replace ix1 := Lib.hid ix1
                go_simp
                replace hn := hn.out
                replace ix1 := ix1.out
                clear a1_ a2_ a3_ a4_ a5_ a6_
                obtain ⟨u7, hu, gl, lk⟩ := fl.store1
                rw [← hu]
                replace fl := gl
                replace litB := lk _ _ (by omega) litB
                replace litA := lk _ _ (by omega) litA
                clear hu gl lk
                have s := (And.intro (And.intro (And.intro fl.kb.c0 (And.intro fl.kb.c1 fl.kb.c2)) litB.1) litA.1)
                refine hKK.out _ _ s (fun hHeld => ?_)
                clear hKK KK hHeld
                try simp only [Act.put, List.setIfInBounds_toArray, List.set_cons_zero, List.set_cons_succ]
                have hHeld := s
                refine wpAnyH_take (i := 18) (v := ?vr1y151x18) nth18 (by kernel_rfl) (by kernel_rfl) (by kernel_rfl) (fun _ _ _ h => h) (Or.inl ⟨by rfl, ?hyr1y151x18⟩) hHeld ?_
                case hyr1y151x18 => (intro wH hSw; (try dsimp only at hSw); go_simp; (try with_reducible rfl))
                simp only [Act.put, List.setIfInBounds_toArray, List.set_cons_zero, List.set_cons_succ]
                refine wpAnyH_ready (rs := [19]) (by kernel_rfl) (by simp) ?_
                refine AllReadyH.cons nth19 (fun KK hKK => ?_) ?_
                · clear hHeld s
                  obtain ⟨a1_, a2_, a3_, a4_, a5_⟩ := fl.hs
                  replace hn := Lib.hid hn
                  replace ix1 := Lib.hid ix1
                  go_simp
                  replace hn := hn.out
                  replace ix1 := ix1.out
                  clear a1_ a2_ a3_ a4_ a5_
                  obtain ⟨u8, hu, gl, lk⟩ := fl.store2 X Y
                  rw [← hu]
                  replace fl := gl
                  replace litB := lk _ _ (by omega) litB
                  replace litA := lk _ _ (by omega) litA
                  clear hu gl lk
                  have s := (And.intro (And.intro (And.intro fl.kb.c0 (And.intro fl.kb.c1 fl.kb.c2)) litB.1) litA.1)
                  refine hKK.out _ _ s (fun hHeld => ?_)
                  clear hKK KK hHeld
                  try simp only [Act.put, List.setIfInBounds_toArray, List.set_cons_zero, List.set_cons_succ]
                  have hHeld := s
                  refine wpAnyH_take (i := 20) (v := ?vr1y152x20) nth20 (by kernel_rfl) (by kernel_rfl) (by kernel_rfl) (fun _ _ _ h => h) (Or.inl ⟨by rfl, ?hyr1y152x20⟩) hHeld ?_
                  case hyr1y152x20 => (intro wH hSw; (try dsimp only at hSw); go_simp; (try with_reducible rfl))
                  simp only [Act.put, List.setIfInBounds_toArray, List.set_cons_zero, List.set_cons_succ]
                  refine wpAnyH_done (by kernel_rfl) ?_ _
                  clear hHeld s
                  obtain ⟨a1_, a2_, a3_, a4_, a5_, a6_⟩ := fl.kr
                  obtain ⟨b1_, b2_, b3_, b4_, b5_⟩ := fl.hs
                  go_wp2_with fail
                  exact bodyPost_ret (v := .tuple #[.agg #[.slice a1 n1 c1, .slice a2 n2 c2, .slice a3 n3 c3], .slice aj nj cj, .agg #[.int .i64 X, .int .i64 Y], .int .i64 n]) (by simp [results, Tryd.results30, go_sem, a1_, a2_, a3_, b1_, b2_]) rfl ⟨a1, n1, c1, a2, n2, c2, a3, n3, c3, l, lo, hi, aj, nj, cj, J, X, Y, n, rfl, fl.hf.base (by omega), ⟨hj1.out, by omega, hj3.out, fl.hj.base (by omega)⟩, fl.q⟩
                exact AllReadyH.nil
              exact AllReadyH.nil
            exact AllReadyH.nil
          refine AllReadyH.cons nth12 (fun KK hKK => ?_) ?_
          · clear hHeld s
            go_simp
            go_at_call 58
            refine (pick_any R _ _ _ rd (by omega) (by omega) (by omega)).mono ?_
            rintro e u5 ⟨t_, tp, tq, rfl, r, b⟩
            replace litB := litB.beside b (by omega)
            replace fl := fl.beside b ⟨hh.1, by omega, hB.1, hB.2⟩
            clear b r rd
            obtain ⟨t, rfl⟩ : ∃ t : Nat, t_ = t := ⟨t_.toNat, by omega⟩
            have tl : t < 6 := by omega
            obtain ⟨ix1, ix2⟩ := follow_idx t tl
            generalize hix : (([0, 0, 1, 1, 2, 3] : List Int).getD t 0).toNat = ix at ix1 ix2
            clear hix
            have ix3 : (ix : Int) < 4 := by omega
            obtain ⟨n, hn⟩ : ∃ n, ([v1_, v2_, -1, 501] : List Int).getD ix 0 = n := ⟨_, rfl⟩
            have s := (And.intro (And.intro fl.kb.c0 (And.intro fl.kb.c1 fl.kb.c2)) litB.1)
            refine hKK.out _ _ s (fun hHeld => ?_)
            clear hKK KK hHeld
            try simp only [Act.put, List.setIfInBounds_toArray, List.set_cons_zero, List.set_cons_succ]
            have hHeld := s
            refine wpAnyH_take (i := 13) (v := ?vr1y153x13) nth13 (by kernel_rfl) (by kernel_rfl) (by kernel_rfl) (fun _ _ _ h => h) (Or.inl ⟨by rfl, ?hyr1y153x13⟩) hHeld ?_
            case hyr1y153x13 => (intro wH hSw; (try dsimp only at hSw); go_simp; (try with_reducible rfl))
            simp only [Act.put, List.setIfInBounds_toArray, List.set_cons_zero, List.set_cons_succ]
            refine wpAnyH_take (i := 14) (v := .int .i64 (ix : Int)) nth14 (by kernel_rfl) (by kernel_rfl) (by kernel_rfl) (fun _ _ _ h => h) (Or.inl ⟨by rfl, ?hyr1y154x14⟩) hHeld ?_
            case hyr1y154x14 => (intro wH hSw; have hc := hSw.2 t (by simp; omega); rw [ix1] at hc; clear hSw; go_simp)
            simp only [Act.put, List.setIfInBounds_toArray, List.set_cons_zero, List.set_cons_succ]
            refine wpAnyH_ready (rs := [9, 17]) (by kernel_rfl) (by simp) ?_
            refine AllReadyH.cons nth9 (fun KK hKK => ?_) ?_
            · clear hHeld s
              go_simp
              obtain ⟨u6, JA, hu, hJ, gl, litA, gtA, lk, rk⟩ := fl.lits [v1_, v2_, -1, 501] 3 _ rfl
              simp only [List.map_cons, List.map_nil] at hu
              rw [← hu, ← hJ]
              replace fl := gl
              replace litB := lk _ _ litB
              clear hu hJ gl lk rk
              have s := (And.intro (And.intro fl.kb.c0 (And.intro fl.kb.c1 fl.kb.c2)) litB.1)
              refine hKK.out _ _ s (fun hHeld => ?_)
              clear hKK KK hHeld
              try simp only [Act.put, List.setIfInBounds_toArray, List.set_cons_zero, List.set_cons_succ]
              clear s
              have s := (And.intro (And.intro (And.intro fl.kb.c0 (And.intro fl.kb.c1 fl.kb.c2)) litB.1) litA.1)
              refine wpAnyH_strong (S' := (fun w' => ((w'.cell? ⟨K, 0, none⟩ = some (.slice a1 n1 c1) ∧ w'.cell? ⟨K, 1, none⟩ = some (.slice a2 n2 c2) ∧ w'.cell? ⟨K, 2, none⟩ = some (.slice a3 n3 c3)) ∧ (LitAt w' JB [0, 0, 1, 1, 2, 3])) ∧ (LitAt w' JA [v1_, v2_, -1, 501]))) (fun _ h => h.1) ?_
              have hHeld := s
              refine wpAnyH_take (i := 15) (v := ?vr1y155x15) nth15 (by kernel_rfl) (by kernel_rfl) (by kernel_rfl) (fun _ _ _ h => h) (Or.inl ⟨by rfl, ?hyr1y155x15⟩) hHeld ?_
              case hyr1y155x15 => (intro wH hSw; (try dsimp only at hSw); go_simp; (try with_reducible rfl))
              simp only [Act.put, List.setIfInBounds_toArray, List.set_cons_zero, List.set_cons_succ]
              refine wpAnyH_take (i := 16) (v := .int .i64 n) nth16 (by kernel_rfl) (by kernel_rfl) (by kernel_rfl) (fun _ _ _ h => h) (Or.inl ⟨by rfl, ?hyr1y156x16⟩) hHeld ?_
              case hyr1y156x16 => (intro wH hSw; have hc := hSw.2 ix (by simp; omega); rw [hn] at hc; clear hSw; go_simp)
              simp only [Act.put, List.setIfInBounds_toArray, List.set_cons_zero, List.set_cons_succ]
              refine wpAnyH_ready (rs := [17]) (by kernel_rfl) (by simp) ?_
              refine AllReadyH.cons nth17 (fun KK hKK => ?_) ?_
              · clear hHeld s
                obtain ⟨a1_, a2_, a3_, a4_, a5_, a6_⟩ := fl.kr
                replace hn := Lib.hid hn
                replace ix1 := Lib.hid ix1
                go_simp
                replace hn := hn.out
                replace ix1 := ix1.out
                clear a1_ a2_ a3_ a4_ a5_ a6_
                obtain ⟨u7, hu, gl, lk⟩ := fl.store1
                rw [← hu]
                replace fl := gl
                replace litB := lk _ _ (by omega) litB
                replace litA := lk _ _ (by omega) litA
                clear hu gl lk
                have s := (And.intro (And.intro (And.intro fl.kb.c0 (And.intro fl.kb.c1 fl.kb.c2)) litB.1) litA.1)
                refine hKK.out _ _ s (fun hHeld => ?_)
                clear hKK KK hHeld
                try simp only [Act.put, List.setIfInBounds_toArray, List.set_cons_zero, List.set_cons_succ]
                have hHeld := s
                refine wpAnyH_take (i := 18) (v := ?vr1y157x18) nth18 (by kernel_rfl) (by kernel_rfl) (by kernel_rfl) (fun _ _ _ h => h) (Or.inl ⟨by rfl, ?hyr1y157x18⟩) hHeld ?_
                case hyr1y157x18 => (intro wH hSw; (try dsimp only at hSw); go_simp; (try with_reducible rfl))
                simp only [Act.put, List.setIfInBounds_toArray, List.set_cons_zero, List.set_cons_succ]
                refine wpAnyH_ready (rs := [19]) (by kernel_rfl) (by simp) ?_
                refine AllReadyH.cons nth19 (fun KK hKK => ?_) ?_
                · clear hHeld s
                  obtain ⟨a1_, a2_, a3_, a4_, a5_⟩ := fl.hs
                  replace hn := Lib.hid hn
                  replace ix1 := Lib.hid ix1
                  go_simp
                  replace hn := hn.out
                  replace ix1 := ix1.out
                  clear a1_ a2_ a3_ a4_ a5_
                  obtain ⟨u8, hu, gl, lk⟩ := fl.store2 X Y
                  rw [← hu]
                  replace fl := gl
                  replace litB := lk _ _ (by omega) litB
                  replace litA := lk _ _ (by omega) litA
                  clear hu gl lk
                  have s := (And.intro (And.intro (And.intro fl.kb.c0 (And.intro fl.kb.c1 fl.kb.c2)) litB.1) litA.1)
                  refine hKK.out _ _ s (fun hHeld => ?_)
                  clear hKK KK hHeld
                  try simp only [Act.put, List.setIfInBounds_toArray, List.set_cons_zero, List.set_cons_succ]
                  have hHeld := s
                  refine wpAnyH_take (i := 20) (v := ?vr1y158x20) nth20 (by kernel_rfl) (by kernel_rfl) (by kernel_rfl) (fun _ _ _ h => h) (Or.inl ⟨by rfl, ?hyr1y158x20⟩) hHeld ?_
                  case hyr1y158x20 => (intro wH hSw; (try dsimp only at hSw); go_simp; (try with_reducible rfl))
                  simp only [Act.put, List.setIfInBounds_toArray, List.set_cons_zero, List.set_cons_succ]
                  refine wpAnyH_done (by kernel_rfl) ?_ _
                  clear hHeld s
                  obtain ⟨a1_, a2_, a3_, a4_, a5_, a6_⟩ := fl.kr
                  obtain ⟨b1_, b2_, b3_, b4_, b5_⟩ := fl.hs
                  go_wp2_with fail
                  exact bodyPost_ret (v := .tuple #[.agg #[.slice a1 n1 c1, .slice a2 n2 c2, .slice a3 n3 c3], .slice aj nj cj, .agg #[.int .i64 X, .int .i64 Y], .int .i64 n]) (by simp [results, Tryd.results30, go_sem, a1_, a2_, a3_, b1_, b2_]) rfl ⟨a1, n1, c1, a2, n2, c2, a3, n3, c3, l, lo, hi, aj, nj, cj, J, X, Y, n, rfl, fl.hf.base (by omega), ⟨hj1.out, by omega, hj3.out, fl.hj.base (by omega)⟩, fl.q⟩
                exact AllReadyH.nil
              exact AllReadyH.nil
            refine AllReadyH.cons nth17 (fun KK hKK => ?_) ?_
            · clear hHeld s
              obtain ⟨a1_, a2_, a3_, a4_, a5_, a6_⟩ := fl.kr
              replace hn := Lib.hid hn
              replace ix1 := Lib.hid ix1
              go_simp
              replace hn := hn.out
              replace ix1 := ix1.out
              clear a1_ a2_ a3_ a4_ a5_ a6_
              obtain ⟨u6, hu, gl, lk⟩ := fl.store1
              rw [← hu]
              replace fl := gl
              replace litB := lk _ _ (by omega) litB
              clear hu gl lk
              have s := (And.intro (And.intro fl.kb.c0 (And.intro fl.kb.c1 fl.kb.c2)) litB.1)
              refine hKK.out _ _ s (fun hHeld => ?_)
              clear hKK KK hHeld
              try simp only [Act.put, List.setIfInBounds_toArray, List.set_cons_zero, List.set_cons_succ]
              have hHeld := s
              refine wpAnyH_take (i := 18) (v := ?vr1y159x18) nth18 (by kernel_rfl) (by kernel_rfl) (by kernel_rfl) (fun _ _ _ h => h) (Or.inl ⟨by rfl, ?hyr1y159x18⟩) hHeld ?_
              case hyr1y159x18 => (intro wH hSw; (try dsimp only at hSw); go_simp; (try with_reducible rfl))
              simp only [Act.put, List.setIfInBounds_toArray, List.set_cons_zero, List.set_cons_succ]
              refine wpAnyH_ready (rs := [9, 19]) (by kernel_rfl) (by simp) ?_
              refine AllReadyH.cons nth9 (fun KK hKK => ?_) ?_
              · clear hHeld s
                go_simp
                obtain ⟨u7, JA, hu, hJ, gl, litA, gtA, lk, rk⟩ := fl.lits [v1_, v2_, -1, 501] 3 _ rfl
                simp only [List.map_cons, List.map_nil] at hu
                rw [← hu, ← hJ]
                replace fl := gl
                replace litB := lk _ _ litB
                clear hu hJ gl lk rk
                have s := (And.intro (And.intro fl.kb.c0 (And.intro fl.kb.c1 fl.kb.c2)) litB.1)
                refine hKK.out _ _ s (fun hHeld => ?_)
                clear hKK KK hHeld
                try simp only [Act.put, List.setIfInBounds_toArray, List.set_cons_zero, List.set_cons_succ]
                clear s
                have s := (And.intro (And.intro (And.intro fl.kb.c0 (And.intro fl.kb.c1 fl.kb.c2)) litB.1) litA.1)
                refine wpAnyH_strong (S' := (fun w' => ((w'.cell? ⟨K, 0, none⟩ = some (.slice a1 n1 c1) ∧ w'.cell? ⟨K, 1, none⟩ = some (.slice a2 n2 c2) ∧ w'.cell? ⟨K, 2, none⟩ = some (.slice a3 n3 c3)) ∧ (LitAt w' JB [0, 0, 1, 1, 2, 3])) ∧ (LitAt w' JA [v1_, v2_, -1, 501]))) (fun _ h => h.1) ?_
                have hHeld := s
                refine wpAnyH_take (i := 15) (v := ?vr1y160x15) nth15 (by kernel_rfl) (by kernel_rfl) (by kernel_rfl) (fun _ _ _ h => h) (Or.inl ⟨by rfl, ?hyr1y160x15⟩) hHeld ?_
                case hyr1y160x15 => (intro wH hSw; (try dsimp only at hSw); go_simp; (try with_reducible rfl))
                simp only [Act.put, List.setIfInBounds_toArray, List.set_cons_zero, List.set_cons_succ]
                refine wpAnyH_take (i := 16) (v := .int .i64 n) nth16 (by kernel_rfl) (by kernel_rfl) (by kernel_rfl) (fun _ _ _ h => h) (Or.inl ⟨by rfl, ?hyr1y161x16⟩) hHeld ?_
                case hyr1y161x16 => (intro wH hSw; have hc := hSw.2 ix (by simp; omega); rw [hn] at hc; clear hSw; go_simp)
                simp only [Act.put, List.setIfInBounds_toArray, List.set_cons_zero, List.set_cons_succ]
                refine wpAnyH_ready (rs := [19]) (by kernel_rfl) (by simp) ?_
                refine AllReadyH.cons nth19 (fun KK hKK => ?_) ?_
                · clear hHeld s
                  obtain ⟨a1_, a2_, a3_, a4_, a5_⟩ := fl.hs
                  replace hn := Lib.hid hn
                  replace ix1 := Lib.hid ix1
                  go_simp
                  replace hn := hn.out
                  replace ix1 := ix1.out
                  clear a1_ a2_ a3_ a4_ a5_
                  obtain ⟨u8, hu, gl, lk⟩ := fl.store2 X Y
                  rw [← hu]
                  replace fl := gl
                  replace litB := lk _ _ (by omega) litB
                  replace litA := lk _ _ (by omega) litA
                  clear hu gl lk
                  have s := (And.intro (And.intro (And.intro fl.kb.c0 (And.intro fl.kb.c1 fl.kb.c2)) litB.1) litA.1)
                  refine hKK.out _ _ s (fun hHeld => ?_)
                  clear hKK KK hHeld
                  try simp only [Act.put, List.setIfInBounds_toArray, List.set_cons_zero, List.set_cons_succ]
                  have hHeld := s
                  refine wpAnyH_take (i := 20) (v := ?vr1y162x20) nth20 (by kernel_rfl) (by kernel_rfl) (by kernel_rfl) (fun _ _ _ h => h) (Or.inl ⟨by rfl, ?hyr1y162x20⟩) hHeld ?_
                  case hyr1y162x20 => (intro wH hSw; (try dsimp only at hSw); go_simp; (try with_reducible rfl))
                  simp only [Act.put, List.setIfInBounds_toArray, List.set_cons_zero, List.set_cons_succ]
                  refine wpAnyH_done (by kernel_rfl) ?_ _
                  clear hHeld s
                  obtain ⟨a1_, a2_, a3_, a4_, a5_, a6_⟩ := fl.kr
                  obtain ⟨b1_, b2_, b3_, b4_, b5_⟩ := fl.hs
                  go_wp2_with fail
                  exact bodyPost_ret (v := .tuple #[.agg #[.slice a1 n1 c1, .slice a2 n2 c2, .slice a3 n3 c3], .slice aj nj cj, .agg #[.int .i64 X, .int .i64 Y], .int .i64 n]) (by simp [results, Tryd.results30, go_sem, a1_, a2_, a3_, b1_, b2_]) rfl ⟨a1, n1, c1, a2, n2, c2, a3, n3, c3, l, lo, hi, aj, nj, cj, J, X, Y, n, rfl, fl.hf.base (by omega), ⟨hj1.out, by omega, hj3.out, fl.hj.base (by omega)⟩, fl.q⟩
                exact AllReadyH.nil
              refine AllReadyH.cons nth19 (fun KK hKK => ?_) ?_
              · clear hHeld s
                obtain ⟨a1_, a2_, a3_, a4_, a5_⟩ := fl.hs
                replace hn := Lib.hid hn
                replace ix1 := Lib.hid ix1
                go_simp
                replace hn := hn.out
                replace ix1 := ix1.out
                clear a1_ a2_ a3_ a4_ a5_
                obtain ⟨u7, hu, gl, lk⟩ := fl.store2 X Y
                rw [← hu]
                replace fl := gl
                replace litB := lk _ _ (by omega) litB
                clear hu gl lk
                have s := (And.intro (And.intro fl.kb.c0 (And.intro fl.kb.c1 fl.kb.c2)) litB.1)
                refine hKK.out _ _ s (fun hHeld => ?_)
                clear hKK KK hHeld
                try simp only [Act.put, List.setIfInBounds_toArray, List.set_cons_zero, List.set_cons_succ]
                have hHeld := s
                refine wpAnyH_ready (rs := [9]) (by kernel_rfl) (by simp) ?_
                refine AllReadyH.cons nth9 (fun KK hKK => ?_) ?_
                · clear hHeld s
                  go_simp
                  obtain ⟨u8, JA, hu, hJ, gl, litA, gtA, lk, rk⟩ := fl.lits [v1_, v2_, -1, 501] 3 _ rfl
                  simp only [List.map_cons, List.map_nil] at hu
                  rw [← hu, ← hJ]
                  replace fl := gl
                  replace litB := lk _ _ litB
                  clear hu hJ gl lk rk
                  have s := (And.intro (And.intro fl.kb.c0 (And.intro fl.kb.c1 fl.kb.c2)) litB.1)
                  refine hKK.out _ _ s (fun hHeld => ?_)
                  clear hKK KK hHeld
                  try simp only [Act.put, List.setIfInBounds_toArray, List.set_cons_zero, List.set_cons_succ]
                  clear s
                  have s := (And.intro (And.intro (And.intro fl.kb.c0 (And.intro fl.kb.c1 fl.kb.c2)) litB.1) litA.1)
                  refine wpAnyH_strong (S' := (fun w' => ((w'.cell? ⟨K, 0, none⟩ = some (.slice a1 n1 c1) ∧ w'.cell? ⟨K, 1, none⟩ = some (.slice a2 n2 c2) ∧ w'.cell? ⟨K, 2, none⟩ = some (.slice a3 n3 c3)) ∧ (LitAt w' JB [0, 0, 1, 1, 2, 3])) ∧ (LitAt w' JA [v1_, v2_, -1, 501]))) (fun _ h => h.1) ?_
                  have hHeld := s
                  refine wpAnyH_take (i := 15) (v := ?vr1y163x15) nth15 (by kernel_rfl) (by kernel_rfl) (by kernel_rfl) (fun _ _ _ h => h) (Or.inl ⟨by rfl, ?hyr1y163x15⟩) hHeld ?_
                  case hyr1y163x15 => (intro wH hSw; (try dsimp only at hSw); go_simp; (try with_reducible rfl))
                  simp only [Act.put, List.setIfInBounds_toArray, List.set_cons_zero, List.set_cons_succ]
                  refine wpAnyH_take (i := 16) (v := .int .i64 n) nth16 (by kernel_rfl) (by kernel_rfl) (by kernel_rfl) (fun _ _ _ h => h) (Or.inl ⟨by rfl, ?hyr1y164x16⟩) hHeld ?_
                  case hyr1y164x16 => (intro wH hSw; have hc := hSw.2 ix (by simp; omega); rw [hn] at hc; clear hSw; go_simp)
                  simp only [Act.put, List.setIfInBounds_toArray, List.set_cons_zero, List.set_cons_succ]
                  refine wpAnyH_take (i := 20) (v := ?vr1y165x20) nth20 (by kernel_rfl) (by kernel_rfl) (by kernel_rfl) (fun _ _ _ h => h) (Or.inl ⟨by rfl, ?hyr1y165x20⟩) hHeld ?_
                  case hyr1y165x20 => (intro wH hSw; (try dsimp only at hSw); go_simp; (try with_reducible rfl))
                  simp only [Act.put, List.setIfInBounds_toArray, List.set_cons_zero, List.set_cons_succ]
                  refine wpAnyH_done (by kernel_rfl) ?_ _
                  clear hHeld s
                  obtain ⟨a1_, a2_, a3_, a4_, a5_, a6_⟩ := fl.kr
                  obtain ⟨b1_, b2_, b3_, b4_, b5_⟩ := fl.hs
                  go_wp2_with fail
                  exact bodyPost_ret (v := .tuple #[.agg #[.slice a1 n1 c1, .slice a2 n2 c2, .slice a3 n3 c3], .slice aj nj cj, .agg #[.int .i64 X, .int .i64 Y], .int .i64 n]) (by simp [results, Tryd.results30, go_sem, a1_, a2_, a3_, b1_, b2_]) rfl ⟨a1, n1, c1, a2, n2, c2, a3, n3, c3, l, lo, hi, aj, nj, cj, J, X, Y, n, rfl, fl.hf.base (by omega), ⟨hj1.out, by omega, hj3.out, fl.hj.base (by omega)⟩, fl.q⟩
                exact AllReadyH.nil
              exact AllReadyH.nil
            exact AllReadyH.nil
          exact AllReadyH.nil
        exact AllReadyH.nil
      exact AllReadyH.nil
    exact AllReadyH.nil
  exact AllReadyH.nil
end Go.Proofs.YtmainffjekjlnaaDoor
