/- Contract of impl.SolveArm. -/
import Derived.Test.YtmainffjekjlnaaDoorCmp
import Derived.Test.YtmainffjekjlnaaDoorSolveMath
import Derived.Test.YtmainffjekjlnaaDoorAt
import Derived.Deep.RegionHeld3
import Derived.Deep.DeepCutAuto
import Derived.Deep.CutBlock
namespace Go.Proofs.YtmainffjekjlnaaDoor
open Go.ChangeShapes Go.WideShapes Go.ChangeAt Go.RowKit
set_option linter.unusedVariables false
theorem rowv {w w' : World} {B b o k : Nat} {l : List Int} {x : Int} (h : Row w B (some ⟨b, o, none⟩) l) (hb : Below B w w') (hk : k < l.length) (hx : l.getD k 0 = x) : w'.cell? ⟨b, o + k, none⟩ = some (.int .i64 x) := by rw [← hx]; exact h.cell hb hk
theorem Owns.lit2 (w : World) (x y : Int) {B : Nat} (hB : B ≤ w.heap.size) : Owns (w.alloc (.cells #[.int .i64 x, .int .i64 y] 3)) B (.slice (some ⟨w.heap.size, 0, none⟩) 2 2) [x, y] :=
  World.ownsRow_lit (base := B) (e := 3) (size := 1) w #[.int .i64 x, .int .i64 y] 2 hB (by unfold maxLen; omega) rfl
/-- the best pair so far, and its rank in a block of its own -/
def BestI (wr : World) (B Lb : Nat) (l : List Int) (X Y : Int) (bv : Value) (b : List Int) : Prop :=
  ∃ p q, Slot wr Lb p q ∧ ((b = [] ∧ bv = .slice none 0 0) ∨ ∃ u v ad cap, b = [u, v] ∧ bv = .slice (some ad) 2 cap ∧ Owns wr B bv b ∧ p = M.score l [u, v] X Y ∧ q = M.absS u v)
theorem BestI.after {w w' : World} {B Lb : Nat} {l : List Int} {X Y : Int} {bv : Value} {b : List Int} (h : BestI w B Lb l X Y bv b) (q : Below w.heap.size w w') : BestI w' B Lb l X Y bv b := by
  obtain ⟨p, r, hs, hc⟩ := h
  refine ⟨p, r, hs.after q, ?_⟩
  rcases hc with hc | ⟨u, v, ad, cap, e1, e2, ho, e3⟩
  · exact .inl hc
  · exact .inr ⟨u, v, ad, cap, e1, e2, ho.after q, e3⟩
theorem BestI.start {w : World} {B Lb : Nat} {l : List Int} {X Y p q : Int} (h : Slot w Lb p q) : BestI w B Lb l X Y (.slice none 0 0) [] := ⟨p, q, h, .inl ⟨rfl, rfl⟩⟩
theorem best_new {w : World} {B Lb : Nat} {l jj : List Int} {X Y x y ps sq : Int} {ad : Addr} {cap : Nat} (kL : Slot w Lb ps sq) (ho : Owns w B (.slice (some ad) 2 cap) jj) (hj : jj = [x, y]) (hp : ps = M.score l [x, y] X Y) (hs : sq = M.absS x y) : BestI w B Lb l X Y (.slice (some ad) 2 cap) jj :=
  ⟨ps, sq, kL, .inr ⟨x, y, ad, cap, hj, rfl, ho, hp, hs⟩⟩
theorem best_owns {w : World} {B : Nat} {l b : List Int} {X Y p q : Int} {bv : Value} (h : (b = [] ∧ bv = .slice none 0 0) ∨ ∃ u v ad cap, b = [u, v] ∧ bv = .slice (some ad) 2 cap ∧ Owns w B bv b ∧ p = M.score l [u, v] X Y ∧ q = M.absS u v) : Owns w B bv b := by
  rcases h with ⟨rfl, rfl⟩ | ⟨_, _, _, _, _, _, h, _⟩
  · exact Owns.nil _ _
  · exact h
theorem M.joints_in {l lo hi : List Int} {a0 a1 e0 e1 x y : Int} (hA : M.armB l lo hi = true) (h2 : l.length = 2) (h0 : lo.getD 0 0 = a0) (h1 : lo.getD 1 0 = a1) (h3 : hi.getD 0 0 = e0) (h4 : hi.getD 1 0 = e1) (hx : a0 ≤ x ∧ x ≤ e0) (hy : a1 ≤ y ∧ y ≤ e1) : M.jointsB l lo hi [x, y] = true :=
  M.joints_two hA h2 (by rw [h0, h3]; exact hx) (by rw [h1, h4]; exact hy)
theorem M.slv_nil (l : List Int) (X Y x y : Int) : M.slv l X Y [] x y = [x, y] := by unfold M.slv; rw [if_pos (.inl rfl)]
theorem M.slv_yes {l : List Int} {X Y x y u v : Int} (h : M.Better l X Y x y u v) : M.slv l X Y [u, v] x y = [x, y] := by unfold M.slv; exact if_pos (.inr h)
theorem M.slv_no {l : List Int} {X Y x y u v : Int} (h : ¬ M.Better l X Y x y u v) : M.slv l X Y [u, v] x y = [u, v] := by
  unfold M.slv
  refine if_neg ?_
  rintro (h' | h')
  · cases h'
  · exact h h'
set_option maxRecDepth 20000 in
set_option maxHeartbeats 16000000 in
theorem impl_solve (a1 a2 a3 : Option Addr) (n1 c1 n2 c2 n3 c3 : Nat) (l lo hi : List Int) (X Y : Int) (w : World) (hT : Tables w) (h1 : l.length = n1) (h2 : lo.length = n2) (h3 : hi.length = n3) (hm : n1 ≤ 1000000000 ∧ n2 ≤ 1000000000 ∧ n3 ≤ 1000000000) (hr : ArmAt w w.heap.size a1 a2 a3 l lo hi) :
    Calls Tryd.prog 10 #[.agg #[.slice a1 n1 c1, .slice a2 n2 c2, .slice a3 n3 c3], .agg #[.int .i64 X, .int .i64 Y]] w (IntsOut w (M.solve l lo hi X Y)) := by
  replace h1 := Lib.hid h1
  replace h2 := Lib.hid h2
  replace h3 := Lib.hid h3
  replace hm := Lib.hid hm
  have bb := bel_new w (.cells #[.slice a1 n1 c1, .slice a2 n2 c2, .slice a3 n3 c3] 25)
  have k0 := (Cell3.new w (.slice a1 n1 c1) (.slice a2 n2 c2) (.slice a3 n3 c3) 25).alloc (.cells #[.int .i64 X, .int .i64 Y] 27)
  have kt := Slot.new (w.alloc (.cells #[.slice a1 n1 c1, .slice a2 n2 c2, .slice a3 n3 c3] 25)) X Y 27
  rw [World.size_alloc] at kt
  replace bb := bel_after bb (bel_new (w.alloc (.cells #[.slice a1 n1 c1, .slice a2 n2 c2, .slice a3 n3 c3] 25)) (.cells #[.int .i64 X, .int .i64 Y] 27))
  replace hr := Lib.hid (hr.after bb)
  replace hT := Lib.hid (hT.later bb)
  replace bb := Lib.hid bb
  go_enter Tryd.func10, Tryd.ntmps10
  obtain ⟨x0, x1, x2, x3, x4, x5⟩ := id k0
  obtain ⟨t0, t1, t2, t3, t4⟩ := id kt
  go_wp2_with fail
  clear x0 x1 x2 x3 x4 x5 t0 t1 t2 t3 t4
  generalize (w.alloc (.cells #[.slice a1 n1 c1, .slice a2 n2 c2, .slice a3 n3 c3] 25)).alloc (.cells #[.int .i64 X, .int .i64 Y] 27) = v at *
  have hvs : w.heap.size + 1 < v.heap.size := kt.2.2.2.2
  obtain ⟨x0, x1, x2, x3, x4, x5⟩ := id k0
  obtain ⟨t0, t1, t2, t3, t4⟩ := id kt
  go_wp2_with fail
  clear x0 x1 x2 x3 x4 x5 t0 t1 t2 t3 t4
  replace bb := Lib.hid (bel_after bb.out (bel_drew _))
  replace k0 := k0.after (bel_drew _)
  replace kt := kt.after (bel_drew _)
  replace hr := Lib.hid (hr.out.after (bel_drew _))
  replace hT := Lib.hid (hT.out.later (bel_drew _))
  cases hA : M.armB l lo hi
  · have hfin := Lib.hid (M.solve_no (l := l) (lo := lo) (hi := hi) (X := X) (Y := Y) (fun h => by have h9 := h.1; rw [hA] at h9; cases h9))
    replace hA := Lib.hid hA
    have s := (And.intro (And.intro k0.c0 (And.intro k0.c1 k0.c2)) (And.intro kt.1 kt.2.1))
    refine wp_region_held_drew (S := (fun w' => ((w'.cell? ⟨w.heap.size, 0, none⟩ = some (.slice a1 n1 c1) ∧ w'.cell? ⟨w.heap.size, 1, none⟩ = some (.slice a2 n2 c2) ∧ w'.cell? ⟨w.heap.size, 2, none⟩ = some (.slice a3 n3 c3)) ∧ (w'.cell? ⟨w.heap.size + 1, 0, none⟩ = some (.int .i64 X) ∧ w'.cell? ⟨w.heap.size + 1, 1, none⟩ = some (.int .i64 Y))))) (by kernel_rfl) s (fun hHeld => ?_)
    refine wpAnyH_take (i := 0) (v := ?va0) nth0 (by kernel_rfl) (by kernel_rfl) (by kernel_rfl) (fun _ _ _ h => h) (Or.inl ⟨by rfl, ?hya0⟩) hHeld ?_
    case hya0 => (intro wH hSw; (try dsimp only at hSw); go_simp; (try with_reducible rfl))
    simp only [Act.put, List.setIfInBounds_toArray, List.set_cons_zero, List.set_cons_succ]
    refine wpAnyH_ready (rs := [1]) (by kernel_rfl) (by simp) ?_
    refine AllReadyH.cons nth1 (fun K hK => ?_) AllReadyH.nil
    go_simp
    (go_at_call 36; refine (impl_arm a1 a2 a3 n1 c1 n2 c2 n3 c3 l lo hi _ h1.out h2.out h3.out hm.out hr.out).mono ?_; rintro e wa ⟨rfl, q⟩; rw [hA.out]; replace bb := Lib.hid (bel_after bb.out q); replace k0 := k0.after q; replace kt := kt.after q; replace hr := Lib.hid (hr.out.after q); replace hT := Lib.hid (hT.out.later q); clear q s; have s := (And.intro (And.intro k0.c0 (And.intro k0.c1 k0.c2)) (And.intro kt.1 kt.2.1)))
    clear hHeld
    refine hK.out _ _ s (fun hHeld => ?_)
    clear hK K
    refine wpAnyH_take (i := 2) (v := ?va2) nth2 (by kernel_rfl) (by kernel_rfl) (by kernel_rfl) (fun _ _ _ h => h) (Or.inl ⟨by rfl, ?hya2⟩) hHeld ?_
    case hya2 => (intro wH hSw; (try dsimp only at hSw); go_simp; (try with_reducible rfl))
    simp only [Act.put, List.setIfInBounds_toArray, List.set_cons_zero, List.set_cons_succ]
    refine wpAnyH_take (i := 3) (v := ?va3) nth3 (by kernel_rfl) (by kernel_rfl) (by kernel_rfl) (fun _ _ _ h => h) (Or.inl ⟨by rfl, ?hya3⟩) hHeld ?_
    case hya3 => (intro wH hSw; (try dsimp only at hSw); go_simp; (try with_reducible rfl))
    simp only [Act.put, List.setIfInBounds_toArray, List.set_cons_zero, List.set_cons_succ]
    refine wpAnyH_take (i := 4) (v := undef) nth4 (by kernel_rfl) (by kernel_rfl) (by kernel_rfl) (fun _ _ _ h => h) (Or.inr ⟨by rfl, rfl⟩) hHeld ?_
    simp only [Act.put, List.setIfInBounds_toArray, List.set_cons_zero, List.set_cons_succ]
    refine wpAnyH_take (i := 5) (v := undef) nth5 (by kernel_rfl) (by kernel_rfl) (by kernel_rfl) (fun _ _ _ h => h) (Or.inr ⟨by rfl, rfl⟩) hHeld ?_
    simp only [Act.put, List.setIfInBounds_toArray, List.set_cons_zero, List.set_cons_succ]
    refine wpAnyH_take (i := 6) (v := undef) nth6 (by kernel_rfl) (by kernel_rfl) (by kernel_rfl) (fun _ _ _ h => h) (Or.inr ⟨by rfl, rfl⟩) hHeld ?_
    simp only [Act.put, List.setIfInBounds_toArray, List.set_cons_zero, List.set_cons_succ]
    refine wpAnyH_take (i := 7) (v := undef) nth7 (by kernel_rfl) (by kernel_rfl) (by kernel_rfl) (fun _ _ _ h => h) (Or.inr ⟨by rfl, rfl⟩) hHeld ?_
    simp only [Act.put, List.setIfInBounds_toArray, List.set_cons_zero, List.set_cons_succ]
    refine wpAnyH_take (i := 8) (v := ?va8) nth8 (by kernel_rfl) (by kernel_rfl) (by kernel_rfl) (fun _ _ _ h => h) (Or.inl ⟨by rfl, ?hya8⟩) hHeld ?_
    case hya8 => (intro wH hSw; (try dsimp only at hSw); go_simp; (try with_reducible rfl))
    simp only [Act.put, List.setIfInBounds_toArray, List.set_cons_zero, List.set_cons_succ]
    refine wpAnyH_take (i := 9) (v := ?va9) nth9 (by kernel_rfl) (by kernel_rfl) (by kernel_rfl) (fun _ _ _ h => h) (Or.inl ⟨by rfl, ?hya9⟩) hHeld ?_
    case hya9 => (intro wH hSw; (try dsimp only at hSw); go_simp; (try with_reducible rfl))
    simp only [Act.put, List.setIfInBounds_toArray, List.set_cons_zero, List.set_cons_succ]
    refine wpAnyH_take (i := 10) (v := undef) nth10 (by kernel_rfl) (by kernel_rfl) (by kernel_rfl) (fun _ _ _ h => h) (Or.inr ⟨by rfl, rfl⟩) hHeld ?_
    simp only [Act.put, List.setIfInBounds_toArray, List.set_cons_zero, List.set_cons_succ]
    refine wpAnyH_take (i := 11) (v := undef) nth11 (by kernel_rfl) (by kernel_rfl) (by kernel_rfl) (fun _ _ _ h => h) (Or.inr ⟨by rfl, rfl⟩) hHeld ?_
    simp only [Act.put, List.setIfInBounds_toArray, List.set_cons_zero, List.set_cons_succ]
    refine wpAnyH_take (i := 12) (v := undef) nth12 (by kernel_rfl) (by kernel_rfl) (by kernel_rfl) (fun _ _ _ h => h) (Or.inr ⟨by rfl, rfl⟩) hHeld ?_
    simp only [Act.put, List.setIfInBounds_toArray, List.set_cons_zero, List.set_cons_succ]
    refine wpAnyH_take (i := 13) (v := ?va13) nth13 (by kernel_rfl) (by kernel_rfl) (by kernel_rfl) (fun _ _ _ h => h) (Or.inl ⟨by rfl, ?hya13⟩) hHeld ?_
    case hya13 => (intro wH hSw; (try dsimp only at hSw); go_simp; (try with_reducible rfl))
    simp only [Act.put, List.setIfInBounds_toArray, List.set_cons_zero, List.set_cons_succ]
    refine wpAnyH_take (i := 14) (v := ?va14) nth14 (by kernel_rfl) (by kernel_rfl) (by kernel_rfl) (fun _ _ _ h => h) (Or.inl ⟨by rfl, ?hya14⟩) hHeld ?_
    case hya14 => (intro wH hSw; (try dsimp only at hSw); go_simp; (try with_reducible rfl))
    simp only [Act.put, List.setIfInBounds_toArray, List.set_cons_zero, List.set_cons_succ]
    refine wpAnyH_take (i := 15) (v := undef) nth15 (by kernel_rfl) (by kernel_rfl) (by kernel_rfl) (fun _ _ _ h => h) (Or.inr ⟨by rfl, rfl⟩) hHeld ?_
    simp only [Act.put, List.setIfInBounds_toArray, List.set_cons_zero, List.set_cons_succ]
    refine wpAnyH_take (i := 16) (v := undef) nth16 (by kernel_rfl) (by kernel_rfl) (by kernel_rfl) (fun _ _ _ h => h) (Or.inr ⟨by rfl, rfl⟩) hHeld ?_
    simp only [Act.put, List.setIfInBounds_toArray, List.set_cons_zero, List.set_cons_succ]
    refine wpAnyH_take (i := 17) (v := undef) nth17 (by kernel_rfl) (by kernel_rfl) (by kernel_rfl) (fun _ _ _ h => h) (Or.inr ⟨by rfl, rfl⟩) hHeld ?_
    simp only [Act.put, List.setIfInBounds_toArray, List.set_cons_zero, List.set_cons_succ]
    refine wpAnyH_take (i := 18) (v := undef) nth18 (by kernel_rfl) (by kernel_rfl) (by kernel_rfl) (fun _ _ _ h => h) (Or.inr ⟨by rfl, rfl⟩) hHeld ?_
    simp only [Act.put, List.setIfInBounds_toArray, List.set_cons_zero, List.set_cons_succ]
    refine wpAnyH_take (i := 19) (v := undef) nth19 (by kernel_rfl) (by kernel_rfl) (by kernel_rfl) (fun _ _ _ h => h) (Or.inr ⟨by rfl, rfl⟩) hHeld ?_
    simp only [Act.put, List.setIfInBounds_toArray, List.set_cons_zero, List.set_cons_succ]
    refine wpAnyH_take (i := 20) (v := undef) nth20 (by kernel_rfl) (by kernel_rfl) (by kernel_rfl) (fun _ _ _ h => h) (Or.inr ⟨by rfl, rfl⟩) hHeld ?_
    simp only [Act.put, List.setIfInBounds_toArray, List.set_cons_zero, List.set_cons_succ]
    refine wpAnyH_take (i := 21) (v := undef) nth21 (by kernel_rfl) (by kernel_rfl) (by kernel_rfl) (fun _ _ _ h => h) (Or.inr ⟨by rfl, rfl⟩) hHeld ?_
    simp only [Act.put, List.setIfInBounds_toArray, List.set_cons_zero, List.set_cons_succ]
    refine wpAnyH_take (i := 22) (v := undef) nth22 (by kernel_rfl) (by kernel_rfl) (by kernel_rfl) (fun _ _ _ h => h) (Or.inr ⟨by rfl, rfl⟩) hHeld ?_
    simp only [Act.put, List.setIfInBounds_toArray, List.set_cons_zero, List.set_cons_succ]
    refine wpAnyH_take (i := 23) (v := undef) nth23 (by kernel_rfl) (by kernel_rfl) (by kernel_rfl) (fun _ _ _ h => h) (Or.inr ⟨by rfl, rfl⟩) hHeld ?_
    simp only [Act.put, List.setIfInBounds_toArray, List.set_cons_zero, List.set_cons_succ]
    refine wpAnyH_take (i := 24) (v := undef) nth24 (by kernel_rfl) (by kernel_rfl) (by kernel_rfl) (fun _ _ _ h => h) (Or.inr ⟨by rfl, rfl⟩) hHeld ?_
    simp only [Act.put, List.setIfInBounds_toArray, List.set_cons_zero, List.set_cons_succ]
    refine wpAnyH_take (i := 25) (v := undef) nth25 (by kernel_rfl) (by kernel_rfl) (by kernel_rfl) (fun _ _ _ h => h) (Or.inr ⟨by rfl, rfl⟩) hHeld ?_
    simp only [Act.put, List.setIfInBounds_toArray, List.set_cons_zero, List.set_cons_succ]
    refine wpAnyH_take (i := 26) (v := undef) nth26 (by kernel_rfl) (by kernel_rfl) (by kernel_rfl) (fun _ _ _ h => h) (Or.inr ⟨by rfl, rfl⟩) hHeld ?_
    simp only [Act.put, List.setIfInBounds_toArray, List.set_cons_zero, List.set_cons_succ]
    refine wpAnyH_take (i := 27) (v := undef) nth27 (by kernel_rfl) (by kernel_rfl) (by kernel_rfl) (fun _ _ _ h => h) (Or.inr ⟨by rfl, rfl⟩) hHeld ?_
    simp only [Act.put, List.setIfInBounds_toArray, List.set_cons_zero, List.set_cons_succ]
    refine wpAnyH_take (i := 28) (v := undef) nth28 (by kernel_rfl) (by kernel_rfl) (by kernel_rfl) (fun _ _ _ h => h) (Or.inr ⟨by rfl, rfl⟩) hHeld ?_
    simp only [Act.put, List.setIfInBounds_toArray, List.set_cons_zero, List.set_cons_succ]
    refine wpAnyH_take (i := 29) (v := undef) nth29 (by kernel_rfl) (by kernel_rfl) (by kernel_rfl) (fun _ _ _ h => h) (Or.inr ⟨by rfl, rfl⟩) hHeld ?_
    simp only [Act.put, List.setIfInBounds_toArray, List.set_cons_zero, List.set_cons_succ]
    refine wpAnyH_take (i := 30) (v := undef) nth30 (by kernel_rfl) (by kernel_rfl) (by kernel_rfl) (fun _ _ _ h => h) (Or.inr ⟨by rfl, rfl⟩) hHeld ?_
    simp only [Act.put, List.setIfInBounds_toArray, List.set_cons_zero, List.set_cons_succ]
    refine wpAnyH_take (i := 31) (v := undef) nth31 (by kernel_rfl) (by kernel_rfl) (by kernel_rfl) (fun _ _ _ h => h) (Or.inr ⟨by rfl, rfl⟩) hHeld ?_
    simp only [Act.put, List.setIfInBounds_toArray, List.set_cons_zero, List.set_cons_succ]
    refine wpAnyH_take (i := 32) (v := undef) nth32 (by kernel_rfl) (by kernel_rfl) (by kernel_rfl) (fun _ _ _ h => h) (Or.inr ⟨by rfl, rfl⟩) hHeld ?_
    simp only [Act.put, List.setIfInBounds_toArray, List.set_cons_zero, List.set_cons_succ]
    refine wpAnyH_take (i := 33) (v := undef) nth33 (by kernel_rfl) (by kernel_rfl) (by kernel_rfl) (fun _ _ _ h => h) (Or.inr ⟨by rfl, rfl⟩) hHeld ?_
    simp only [Act.put, List.setIfInBounds_toArray, List.set_cons_zero, List.set_cons_succ]
    refine wpAnyH_take (i := 34) (v := undef) nth34 (by kernel_rfl) (by kernel_rfl) (by kernel_rfl) (fun _ _ _ h => h) (Or.inr ⟨by rfl, rfl⟩) hHeld ?_
    simp only [Act.put, List.setIfInBounds_toArray, List.set_cons_zero, List.set_cons_succ]
    refine wpAnyH_take (i := 35) (v := undef) nth35 (by kernel_rfl) (by kernel_rfl) (by kernel_rfl) (fun _ _ _ h => h) (Or.inr ⟨by rfl, rfl⟩) hHeld ?_
    simp only [Act.put, List.setIfInBounds_toArray, List.set_cons_zero, List.set_cons_succ]
    refine wpAnyH_take (i := 36) (v := undef) nth36 (by kernel_rfl) (by kernel_rfl) (by kernel_rfl) (fun _ _ _ h => h) (Or.inr ⟨by rfl, rfl⟩) hHeld ?_
    simp only [Act.put, List.setIfInBounds_toArray, List.set_cons_zero, List.set_cons_succ]
    refine wpAnyH_take (i := 37) (v := ?va37) nth37 (by kernel_rfl) (by kernel_rfl) (by kernel_rfl) (fun _ _ _ h => h) (Or.inl ⟨by rfl, ?hya37⟩) hHeld ?_
    case hya37 => (intro wH hSw; (try dsimp only at hSw); go_simp; (try with_reducible rfl))
    simp only [Act.put, List.setIfInBounds_toArray, List.set_cons_zero, List.set_cons_succ]
    refine wpAnyH_done (by kernel_rfl) ?_ _
    go_wp2_with fail
    go_ret
    exact ints_fin hfin.out (Owns.nil _ _) bb.out
  obtain ⟨⟨⟨e1, e2⟩, e3, e4⟩, hv⟩ := M.armB_true hA
  by_cases hn2 : ¬ n1 = 2
  · have hfin := Lib.hid (M.solve_no (l := l) (lo := lo) (hi := hi) (X := X) (Y := Y) (fun h => hn2 (by rw [← h1.out]; exact h.2.1)))
    have hne : ((n1 : Int) != 2) = true := by simp; omega
    clear e1 e2 e3 e4 hv
    replace hA := Lib.hid hA
    have s := (And.intro (And.intro k0.c0 (And.intro k0.c1 k0.c2)) (And.intro kt.1 kt.2.1))
    refine wp_region_held_drew (S := (fun w' => ((w'.cell? ⟨w.heap.size, 0, none⟩ = some (.slice a1 n1 c1) ∧ w'.cell? ⟨w.heap.size, 1, none⟩ = some (.slice a2 n2 c2) ∧ w'.cell? ⟨w.heap.size, 2, none⟩ = some (.slice a3 n3 c3)) ∧ (w'.cell? ⟨w.heap.size + 1, 0, none⟩ = some (.int .i64 X) ∧ w'.cell? ⟨w.heap.size + 1, 1, none⟩ = some (.int .i64 Y))))) (by kernel_rfl) s (fun hHeld => ?_)
    refine wpAnyH_take (i := 0) (v := ?vb0) nth0 (by kernel_rfl) (by kernel_rfl) (by kernel_rfl) (fun _ _ _ h => h) (Or.inl ⟨by rfl, ?hyb0⟩) hHeld ?_
    case hyb0 => (intro wH hSw; (try dsimp only at hSw); go_simp; (try with_reducible rfl))
    simp only [Act.put, List.setIfInBounds_toArray, List.set_cons_zero, List.set_cons_succ]
    refine wpAnyH_ready (rs := [1]) (by kernel_rfl) (by simp) ?_
    refine AllReadyH.cons nth1 (fun K hK => ?_) AllReadyH.nil
    go_simp
    (go_at_call 36; refine (impl_arm a1 a2 a3 n1 c1 n2 c2 n3 c3 l lo hi _ h1.out h2.out h3.out hm.out hr.out).mono ?_; rintro e wa ⟨rfl, q⟩; rw [hA.out]; replace bb := Lib.hid (bel_after bb.out q); replace k0 := k0.after q; replace kt := kt.after q; replace hr := Lib.hid (hr.out.after q); replace hT := Lib.hid (hT.out.later q); clear q s; have s := (And.intro (And.intro k0.c0 (And.intro k0.c1 k0.c2)) (And.intro kt.1 kt.2.1)))
    clear hHeld
    refine hK.out _ _ s (fun hHeld => ?_)
    clear hK K
    refine wpAnyH_take (i := 2) (v := ?vb2) nth2 (by kernel_rfl) (by kernel_rfl) (by kernel_rfl) (fun _ _ _ h => h) (Or.inl ⟨by rfl, ?hyb2⟩) hHeld ?_
    case hyb2 => (intro wH hSw; (try dsimp only at hSw); go_simp; (try with_reducible rfl))
    simp only [Act.put, List.setIfInBounds_toArray, List.set_cons_zero, List.set_cons_succ]
    refine wpAnyH_take (i := 3) (v := ?vb3) nth3 (by kernel_rfl) (by kernel_rfl) (by kernel_rfl) (fun _ _ _ h => h) (Or.inl ⟨by rfl, ?hyb3⟩) hHeld ?_
    case hyb3 => (intro wH hSw; (try dsimp only at hSw); go_simp; (try with_reducible rfl))
    simp only [Act.put, List.setIfInBounds_toArray, List.set_cons_zero, List.set_cons_succ]
    refine wpAnyH_take (i := 4) (v := ?vb4) nth4 (by kernel_rfl) (by kernel_rfl) (by kernel_rfl) (fun _ _ _ h => h) (Or.inl ⟨by rfl, ?hyb4⟩) hHeld ?_
    case hyb4 => (intro wH hSw; (try dsimp only at hSw); go_simp; (try with_reducible rfl))
    simp only [Act.put, List.setIfInBounds_toArray, List.set_cons_zero, List.set_cons_succ]
    refine wpAnyH_take (i := 5) (v := ?vb5) nth5 (by kernel_rfl) (by kernel_rfl) (by kernel_rfl) (fun _ _ _ h => h) (Or.inl ⟨by rfl, ?hyb5⟩) hHeld ?_
    case hyb5 => (intro wH hSw; (try dsimp only at hSw); go_simp; (try with_reducible rfl))
    simp only [Act.put, List.setIfInBounds_toArray, List.set_cons_zero, List.set_cons_succ]
    refine wpAnyH_take (i := 6) (v := ?vb6) nth6 (by kernel_rfl) (by kernel_rfl) (by kernel_rfl) (fun _ _ _ h => h) (Or.inl ⟨by rfl, ?hyb6⟩) hHeld ?_
    case hyb6 => (intro wH hSw; (try dsimp only at hSw); go_simp; (try with_reducible rfl))
    simp only [Act.put, List.setIfInBounds_toArray, List.set_cons_zero, List.set_cons_succ]
    refine wpAnyH_take (i := 7) (v := ?vb7) nth7 (by kernel_rfl) (by kernel_rfl) (by kernel_rfl) (fun _ _ _ h => h) (Or.inl ⟨by rfl, ?hyb7⟩) hHeld ?_
    case hyb7 => (intro wH hSw; (try dsimp only at hSw); go_simp; (try with_reducible rfl))
    simp only [Act.put, List.setIfInBounds_toArray, List.set_cons_zero, List.set_cons_succ]
    refine wpAnyH_take (i := 8) (v := ?vb8) nth8 (by kernel_rfl) (by kernel_rfl) (by kernel_rfl) (fun _ _ _ h => h) (Or.inl ⟨by rfl, ?hyb8⟩) hHeld ?_
    case hyb8 => (intro wH hSw; (try dsimp only at hSw); go_simp; (try with_reducible rfl))
    simp only [Act.put, List.setIfInBounds_toArray, List.set_cons_zero, List.set_cons_succ]
    refine wpAnyH_take (i := 9) (v := ?vb9) nth9 (by kernel_rfl) (by kernel_rfl) (by kernel_rfl) (fun _ _ _ h => h) (Or.inl ⟨by rfl, ?hyb9⟩) hHeld ?_
    case hyb9 => (intro wH hSw; (try dsimp only at hSw); go_simp; (try with_reducible rfl))
    simp only [Act.put, List.setIfInBounds_toArray, List.set_cons_zero, List.set_cons_succ]
    refine wpAnyH_take (i := 10) (v := undef) nth10 (by kernel_rfl) (by kernel_rfl) (by kernel_rfl) (fun _ _ _ h => h) (Or.inr ⟨by rfl, rfl⟩) hHeld ?_
    simp only [Act.put, List.setIfInBounds_toArray, List.set_cons_zero, List.set_cons_succ]
    refine wpAnyH_take (i := 11) (v := undef) nth11 (by kernel_rfl) (by kernel_rfl) (by kernel_rfl) (fun _ _ _ h => h) (Or.inr ⟨by rfl, rfl⟩) hHeld ?_
    simp only [Act.put, List.setIfInBounds_toArray, List.set_cons_zero, List.set_cons_succ]
    refine wpAnyH_take (i := 12) (v := undef) nth12 (by kernel_rfl) (by kernel_rfl) (by kernel_rfl) (fun _ _ _ h => h) (Or.inr ⟨by rfl, rfl⟩) hHeld ?_
    simp only [Act.put, List.setIfInBounds_toArray, List.set_cons_zero, List.set_cons_succ]
    refine wpAnyH_take (i := 13) (v := ?vb13) nth13 (by kernel_rfl) (by kernel_rfl) (by kernel_rfl) (fun _ _ _ h => h) (Or.inl ⟨by rfl, ?hyb13⟩) hHeld ?_
    case hyb13 => (intro wH hSw; (try dsimp only at hSw); go_simp; (try with_reducible rfl))
    simp only [Act.put, List.setIfInBounds_toArray, List.set_cons_zero, List.set_cons_succ]
    refine wpAnyH_take (i := 14) (v := ?vb14) nth14 (by kernel_rfl) (by kernel_rfl) (by kernel_rfl) (fun _ _ _ h => h) (Or.inl ⟨by rfl, ?hyb14⟩) hHeld ?_
    case hyb14 => (intro wH hSw; (try dsimp only at hSw); go_simp; (try with_reducible rfl))
    simp only [Act.put, List.setIfInBounds_toArray, List.set_cons_zero, List.set_cons_succ]
    refine wpAnyH_take (i := 15) (v := undef) nth15 (by kernel_rfl) (by kernel_rfl) (by kernel_rfl) (fun _ _ _ h => h) (Or.inr ⟨by rfl, rfl⟩) hHeld ?_
    simp only [Act.put, List.setIfInBounds_toArray, List.set_cons_zero, List.set_cons_succ]
    refine wpAnyH_take (i := 16) (v := undef) nth16 (by kernel_rfl) (by kernel_rfl) (by kernel_rfl) (fun _ _ _ h => h) (Or.inr ⟨by rfl, rfl⟩) hHeld ?_
    simp only [Act.put, List.setIfInBounds_toArray, List.set_cons_zero, List.set_cons_succ]
    refine wpAnyH_take (i := 17) (v := undef) nth17 (by kernel_rfl) (by kernel_rfl) (by kernel_rfl) (fun _ _ _ h => h) (Or.inr ⟨by rfl, rfl⟩) hHeld ?_
    simp only [Act.put, List.setIfInBounds_toArray, List.set_cons_zero, List.set_cons_succ]
    refine wpAnyH_take (i := 18) (v := undef) nth18 (by kernel_rfl) (by kernel_rfl) (by kernel_rfl) (fun _ _ _ h => h) (Or.inr ⟨by rfl, rfl⟩) hHeld ?_
    simp only [Act.put, List.setIfInBounds_toArray, List.set_cons_zero, List.set_cons_succ]
    refine wpAnyH_take (i := 19) (v := undef) nth19 (by kernel_rfl) (by kernel_rfl) (by kernel_rfl) (fun _ _ _ h => h) (Or.inr ⟨by rfl, rfl⟩) hHeld ?_
    simp only [Act.put, List.setIfInBounds_toArray, List.set_cons_zero, List.set_cons_succ]
    refine wpAnyH_take (i := 20) (v := undef) nth20 (by kernel_rfl) (by kernel_rfl) (by kernel_rfl) (fun _ _ _ h => h) (Or.inr ⟨by rfl, rfl⟩) hHeld ?_
    simp only [Act.put, List.setIfInBounds_toArray, List.set_cons_zero, List.set_cons_succ]
    refine wpAnyH_take (i := 21) (v := undef) nth21 (by kernel_rfl) (by kernel_rfl) (by kernel_rfl) (fun _ _ _ h => h) (Or.inr ⟨by rfl, rfl⟩) hHeld ?_
    simp only [Act.put, List.setIfInBounds_toArray, List.set_cons_zero, List.set_cons_succ]
    refine wpAnyH_take (i := 22) (v := undef) nth22 (by kernel_rfl) (by kernel_rfl) (by kernel_rfl) (fun _ _ _ h => h) (Or.inr ⟨by rfl, rfl⟩) hHeld ?_
    simp only [Act.put, List.setIfInBounds_toArray, List.set_cons_zero, List.set_cons_succ]
    refine wpAnyH_take (i := 23) (v := undef) nth23 (by kernel_rfl) (by kernel_rfl) (by kernel_rfl) (fun _ _ _ h => h) (Or.inr ⟨by rfl, rfl⟩) hHeld ?_
    simp only [Act.put, List.setIfInBounds_toArray, List.set_cons_zero, List.set_cons_succ]
    refine wpAnyH_take (i := 24) (v := undef) nth24 (by kernel_rfl) (by kernel_rfl) (by kernel_rfl) (fun _ _ _ h => h) (Or.inr ⟨by rfl, rfl⟩) hHeld ?_
    simp only [Act.put, List.setIfInBounds_toArray, List.set_cons_zero, List.set_cons_succ]
    refine wpAnyH_take (i := 25) (v := undef) nth25 (by kernel_rfl) (by kernel_rfl) (by kernel_rfl) (fun _ _ _ h => h) (Or.inr ⟨by rfl, rfl⟩) hHeld ?_
    simp only [Act.put, List.setIfInBounds_toArray, List.set_cons_zero, List.set_cons_succ]
    refine wpAnyH_take (i := 26) (v := undef) nth26 (by kernel_rfl) (by kernel_rfl) (by kernel_rfl) (fun _ _ _ h => h) (Or.inr ⟨by rfl, rfl⟩) hHeld ?_
    simp only [Act.put, List.setIfInBounds_toArray, List.set_cons_zero, List.set_cons_succ]
    refine wpAnyH_take (i := 27) (v := undef) nth27 (by kernel_rfl) (by kernel_rfl) (by kernel_rfl) (fun _ _ _ h => h) (Or.inr ⟨by rfl, rfl⟩) hHeld ?_
    simp only [Act.put, List.setIfInBounds_toArray, List.set_cons_zero, List.set_cons_succ]
    refine wpAnyH_take (i := 28) (v := undef) nth28 (by kernel_rfl) (by kernel_rfl) (by kernel_rfl) (fun _ _ _ h => h) (Or.inr ⟨by rfl, rfl⟩) hHeld ?_
    simp only [Act.put, List.setIfInBounds_toArray, List.set_cons_zero, List.set_cons_succ]
    refine wpAnyH_take (i := 29) (v := undef) nth29 (by kernel_rfl) (by kernel_rfl) (by kernel_rfl) (fun _ _ _ h => h) (Or.inr ⟨by rfl, rfl⟩) hHeld ?_
    simp only [Act.put, List.setIfInBounds_toArray, List.set_cons_zero, List.set_cons_succ]
    refine wpAnyH_take (i := 30) (v := undef) nth30 (by kernel_rfl) (by kernel_rfl) (by kernel_rfl) (fun _ _ _ h => h) (Or.inr ⟨by rfl, rfl⟩) hHeld ?_
    simp only [Act.put, List.setIfInBounds_toArray, List.set_cons_zero, List.set_cons_succ]
    refine wpAnyH_take (i := 31) (v := undef) nth31 (by kernel_rfl) (by kernel_rfl) (by kernel_rfl) (fun _ _ _ h => h) (Or.inr ⟨by rfl, rfl⟩) hHeld ?_
    simp only [Act.put, List.setIfInBounds_toArray, List.set_cons_zero, List.set_cons_succ]
    refine wpAnyH_take (i := 32) (v := undef) nth32 (by kernel_rfl) (by kernel_rfl) (by kernel_rfl) (fun _ _ _ h => h) (Or.inr ⟨by rfl, rfl⟩) hHeld ?_
    simp only [Act.put, List.setIfInBounds_toArray, List.set_cons_zero, List.set_cons_succ]
    refine wpAnyH_take (i := 33) (v := undef) nth33 (by kernel_rfl) (by kernel_rfl) (by kernel_rfl) (fun _ _ _ h => h) (Or.inr ⟨by rfl, rfl⟩) hHeld ?_
    simp only [Act.put, List.setIfInBounds_toArray, List.set_cons_zero, List.set_cons_succ]
    refine wpAnyH_take (i := 34) (v := undef) nth34 (by kernel_rfl) (by kernel_rfl) (by kernel_rfl) (fun _ _ _ h => h) (Or.inr ⟨by rfl, rfl⟩) hHeld ?_
    simp only [Act.put, List.setIfInBounds_toArray, List.set_cons_zero, List.set_cons_succ]
    refine wpAnyH_take (i := 35) (v := undef) nth35 (by kernel_rfl) (by kernel_rfl) (by kernel_rfl) (fun _ _ _ h => h) (Or.inr ⟨by rfl, rfl⟩) hHeld ?_
    simp only [Act.put, List.setIfInBounds_toArray, List.set_cons_zero, List.set_cons_succ]
    refine wpAnyH_take (i := 36) (v := undef) nth36 (by kernel_rfl) (by kernel_rfl) (by kernel_rfl) (fun _ _ _ h => h) (Or.inr ⟨by rfl, rfl⟩) hHeld ?_
    simp only [Act.put, List.setIfInBounds_toArray, List.set_cons_zero, List.set_cons_succ]
    refine wpAnyH_take (i := 37) (v := ?vb37) nth37 (by kernel_rfl) (by kernel_rfl) (by kernel_rfl) (fun _ _ _ h => h) (Or.inl ⟨by rfl, ?hyb37⟩) hHeld ?_
    case hyb37 => (intro wH hSw; (try dsimp only at hSw); go_simp; (try with_reducible rfl))
    simp only [Act.put, List.setIfInBounds_toArray, List.set_cons_zero, List.set_cons_succ]
    refine wpAnyH_done (by kernel_rfl) ?_ _
    go_wp2_with fail
    go_ret
    exact ints_fin hfin.out (Owns.nil _ _) bb.out
  have hnA : n1 ≤ 2 := by omega
  have hnB : 2 ≤ n1 := by omega
  clear hn2
  have hne : ((n1 : Int) != 2) = false := by simp; omega
  cases hP : M.pvB X Y
  · have hfin := Lib.hid (M.solve_no (l := l) (lo := lo) (hi := hi) (X := X) (Y := Y) (fun h => by have h9 := h.2.2.1; rw [hP] at h9; cases h9))
    clear e1 e2 e3 e4 hv
    replace hA := Lib.hid hA
    replace hP := Lib.hid hP
    have s := (And.intro (And.intro k0.c0 (And.intro k0.c1 k0.c2)) (And.intro kt.1 kt.2.1))
    refine wp_region_held_drew (S := (fun w' => ((w'.cell? ⟨w.heap.size, 0, none⟩ = some (.slice a1 n1 c1) ∧ w'.cell? ⟨w.heap.size, 1, none⟩ = some (.slice a2 n2 c2) ∧ w'.cell? ⟨w.heap.size, 2, none⟩ = some (.slice a3 n3 c3)) ∧ (w'.cell? ⟨w.heap.size + 1, 0, none⟩ = some (.int .i64 X) ∧ w'.cell? ⟨w.heap.size + 1, 1, none⟩ = some (.int .i64 Y))))) (by kernel_rfl) s (fun hHeld => ?_)
    refine wpAnyH_take (i := 0) (v := ?vc0) nth0 (by kernel_rfl) (by kernel_rfl) (by kernel_rfl) (fun _ _ _ h => h) (Or.inl ⟨by rfl, ?hyc0⟩) hHeld ?_
    case hyc0 => (intro wH hSw; (try dsimp only at hSw); go_simp; (try with_reducible rfl))
    simp only [Act.put, List.setIfInBounds_toArray, List.set_cons_zero, List.set_cons_succ]
    refine wpAnyH_ready (rs := [1]) (by kernel_rfl) (by simp) ?_
    refine AllReadyH.cons nth1 (fun K hK => ?_) AllReadyH.nil
    go_simp
    (go_at_call 36; refine (impl_arm a1 a2 a3 n1 c1 n2 c2 n3 c3 l lo hi _ h1.out h2.out h3.out hm.out hr.out).mono ?_; rintro e wa ⟨rfl, q⟩; rw [hA.out]; replace bb := Lib.hid (bel_after bb.out q); replace k0 := k0.after q; replace kt := kt.after q; replace hr := Lib.hid (hr.out.after q); replace hT := Lib.hid (hT.out.later q); clear q s; have s := (And.intro (And.intro k0.c0 (And.intro k0.c1 k0.c2)) (And.intro kt.1 kt.2.1)))
    clear hHeld
    refine hK.out _ _ s (fun hHeld => ?_)
    clear hK K
    refine wpAnyH_take (i := 2) (v := ?vc2) nth2 (by kernel_rfl) (by kernel_rfl) (by kernel_rfl) (fun _ _ _ h => h) (Or.inl ⟨by rfl, ?hyc2⟩) hHeld ?_
    case hyc2 => (intro wH hSw; (try dsimp only at hSw); go_simp; (try with_reducible rfl))
    simp only [Act.put, List.setIfInBounds_toArray, List.set_cons_zero, List.set_cons_succ]
    refine wpAnyH_take (i := 3) (v := ?vc3) nth3 (by kernel_rfl) (by kernel_rfl) (by kernel_rfl) (fun _ _ _ h => h) (Or.inl ⟨by rfl, ?hyc3⟩) hHeld ?_
    case hyc3 => (intro wH hSw; (try dsimp only at hSw); go_simp; (try with_reducible rfl))
    simp only [Act.put, List.setIfInBounds_toArray, List.set_cons_zero, List.set_cons_succ]
    refine wpAnyH_take (i := 4) (v := ?vc4) nth4 (by kernel_rfl) (by kernel_rfl) (by kernel_rfl) (fun _ _ _ h => h) (Or.inl ⟨by rfl, ?hyc4⟩) hHeld ?_
    case hyc4 => (intro wH hSw; (try dsimp only at hSw); go_simp; (try with_reducible rfl))
    simp only [Act.put, List.setIfInBounds_toArray, List.set_cons_zero, List.set_cons_succ]
    refine wpAnyH_take (i := 5) (v := ?vc5) nth5 (by kernel_rfl) (by kernel_rfl) (by kernel_rfl) (fun _ _ _ h => h) (Or.inl ⟨by rfl, ?hyc5⟩) hHeld ?_
    case hyc5 => (intro wH hSw; (try dsimp only at hSw); go_simp; (try with_reducible rfl))
    simp only [Act.put, List.setIfInBounds_toArray, List.set_cons_zero, List.set_cons_succ]
    refine wpAnyH_take (i := 6) (v := ?vc6) nth6 (by kernel_rfl) (by kernel_rfl) (by kernel_rfl) (fun _ _ _ h => h) (Or.inl ⟨by rfl, ?hyc6⟩) hHeld ?_
    case hyc6 => (intro wH hSw; (try dsimp only at hSw); go_simp; (try with_reducible rfl))
    simp only [Act.put, List.setIfInBounds_toArray, List.set_cons_zero, List.set_cons_succ]
    refine wpAnyH_take (i := 7) (v := ?vc7) nth7 (by kernel_rfl) (by kernel_rfl) (by kernel_rfl) (fun _ _ _ h => h) (Or.inl ⟨by rfl, ?hyc7⟩) hHeld ?_
    case hyc7 => (intro wH hSw; (try dsimp only at hSw); go_simp; (try with_reducible rfl))
    simp only [Act.put, List.setIfInBounds_toArray, List.set_cons_zero, List.set_cons_succ]
    refine wpAnyH_take (i := 8) (v := ?vc8) nth8 (by kernel_rfl) (by kernel_rfl) (by kernel_rfl) (fun _ _ _ h => h) (Or.inl ⟨by rfl, ?hyc8⟩) hHeld ?_
    case hyc8 => (intro wH hSw; (try dsimp only at hSw); go_simp; (try with_reducible rfl))
    simp only [Act.put, List.setIfInBounds_toArray, List.set_cons_zero, List.set_cons_succ]
    refine wpAnyH_take (i := 9) (v := ?vc9) nth9 (by kernel_rfl) (by kernel_rfl) (by kernel_rfl) (fun _ _ _ h => h) (Or.inl ⟨by rfl, ?hyc9⟩) hHeld ?_
    case hyc9 => (intro wH hSw; (try dsimp only at hSw); go_simp; (try with_reducible rfl))
    simp only [Act.put, List.setIfInBounds_toArray, List.set_cons_zero, List.set_cons_succ]
    refine wpAnyH_take (i := 10) (v := ?vc10) nth10 (by kernel_rfl) (by kernel_rfl) (by kernel_rfl) (fun _ _ _ h => h) (Or.inl ⟨by rfl, ?hyc10⟩) hHeld ?_
    case hyc10 => (intro wH hSw; (try dsimp only at hSw); go_simp; (try with_reducible rfl))
    simp only [Act.put, List.setIfInBounds_toArray, List.set_cons_zero, List.set_cons_succ]
    refine wpAnyH_ready (rs := [11]) (by kernel_rfl) (by simp) ?_
    refine AllReadyH.cons nth11 (fun K hK => ?_) AllReadyH.nil
    go_simp
    (go_at_call 37; refine (impl_pv X Y _).mono ?_; rintro e wp ⟨rfl, q⟩; rw [hP.out]; replace bb := Lib.hid (bel_after bb.out q); replace k0 := k0.after q; replace kt := kt.after q; replace hr := Lib.hid (hr.out.after q); replace hT := Lib.hid (hT.out.later q); clear q s; have s := (And.intro (And.intro k0.c0 (And.intro k0.c1 k0.c2)) (And.intro kt.1 kt.2.1)))
    clear hHeld
    refine hK.out _ _ s (fun hHeld => ?_)
    clear hK K
    refine wpAnyH_take (i := 12) (v := ?vc12) nth12 (by kernel_rfl) (by kernel_rfl) (by kernel_rfl) (fun _ _ _ h => h) (Or.inl ⟨by rfl, ?hyc12⟩) hHeld ?_
    case hyc12 => (intro wH hSw; (try dsimp only at hSw); go_simp; (try with_reducible rfl))
    simp only [Act.put, List.setIfInBounds_toArray, List.set_cons_zero, List.set_cons_succ]
    refine wpAnyH_take (i := 13) (v := ?vc13) nth13 (by kernel_rfl) (by kernel_rfl) (by kernel_rfl) (fun _ _ _ h => h) (Or.inl ⟨by rfl, ?hyc13⟩) hHeld ?_
    case hyc13 => (intro wH hSw; (try dsimp only at hSw); go_simp; (try with_reducible rfl))
    simp only [Act.put, List.setIfInBounds_toArray, List.set_cons_zero, List.set_cons_succ]
    refine wpAnyH_take (i := 14) (v := ?vc14) nth14 (by kernel_rfl) (by kernel_rfl) (by kernel_rfl) (fun _ _ _ h => h) (Or.inl ⟨by rfl, ?hyc14⟩) hHeld ?_
    case hyc14 => (intro wH hSw; (try dsimp only at hSw); go_simp; (try with_reducible rfl))
    simp only [Act.put, List.setIfInBounds_toArray, List.set_cons_zero, List.set_cons_succ]
    refine wpAnyH_take (i := 15) (v := undef) nth15 (by kernel_rfl) (by kernel_rfl) (by kernel_rfl) (fun _ _ _ h => h) (Or.inr ⟨by rfl, rfl⟩) hHeld ?_
    simp only [Act.put, List.setIfInBounds_toArray, List.set_cons_zero, List.set_cons_succ]
    refine wpAnyH_take (i := 16) (v := undef) nth16 (by kernel_rfl) (by kernel_rfl) (by kernel_rfl) (fun _ _ _ h => h) (Or.inr ⟨by rfl, rfl⟩) hHeld ?_
    simp only [Act.put, List.setIfInBounds_toArray, List.set_cons_zero, List.set_cons_succ]
    refine wpAnyH_take (i := 17) (v := undef) nth17 (by kernel_rfl) (by kernel_rfl) (by kernel_rfl) (fun _ _ _ h => h) (Or.inr ⟨by rfl, rfl⟩) hHeld ?_
    simp only [Act.put, List.setIfInBounds_toArray, List.set_cons_zero, List.set_cons_succ]
    refine wpAnyH_take (i := 18) (v := undef) nth18 (by kernel_rfl) (by kernel_rfl) (by kernel_rfl) (fun _ _ _ h => h) (Or.inr ⟨by rfl, rfl⟩) hHeld ?_
    simp only [Act.put, List.setIfInBounds_toArray, List.set_cons_zero, List.set_cons_succ]
    refine wpAnyH_take (i := 19) (v := undef) nth19 (by kernel_rfl) (by kernel_rfl) (by kernel_rfl) (fun _ _ _ h => h) (Or.inr ⟨by rfl, rfl⟩) hHeld ?_
    simp only [Act.put, List.setIfInBounds_toArray, List.set_cons_zero, List.set_cons_succ]
    refine wpAnyH_take (i := 20) (v := undef) nth20 (by kernel_rfl) (by kernel_rfl) (by kernel_rfl) (fun _ _ _ h => h) (Or.inr ⟨by rfl, rfl⟩) hHeld ?_
    simp only [Act.put, List.setIfInBounds_toArray, List.set_cons_zero, List.set_cons_succ]
    refine wpAnyH_take (i := 21) (v := undef) nth21 (by kernel_rfl) (by kernel_rfl) (by kernel_rfl) (fun _ _ _ h => h) (Or.inr ⟨by rfl, rfl⟩) hHeld ?_
    simp only [Act.put, List.setIfInBounds_toArray, List.set_cons_zero, List.set_cons_succ]
    refine wpAnyH_take (i := 22) (v := undef) nth22 (by kernel_rfl) (by kernel_rfl) (by kernel_rfl) (fun _ _ _ h => h) (Or.inr ⟨by rfl, rfl⟩) hHeld ?_
    simp only [Act.put, List.setIfInBounds_toArray, List.set_cons_zero, List.set_cons_succ]
    refine wpAnyH_take (i := 23) (v := undef) nth23 (by kernel_rfl) (by kernel_rfl) (by kernel_rfl) (fun _ _ _ h => h) (Or.inr ⟨by rfl, rfl⟩) hHeld ?_
    simp only [Act.put, List.setIfInBounds_toArray, List.set_cons_zero, List.set_cons_succ]
    refine wpAnyH_take (i := 24) (v := undef) nth24 (by kernel_rfl) (by kernel_rfl) (by kernel_rfl) (fun _ _ _ h => h) (Or.inr ⟨by rfl, rfl⟩) hHeld ?_
    simp only [Act.put, List.setIfInBounds_toArray, List.set_cons_zero, List.set_cons_succ]
    refine wpAnyH_take (i := 25) (v := undef) nth25 (by kernel_rfl) (by kernel_rfl) (by kernel_rfl) (fun _ _ _ h => h) (Or.inr ⟨by rfl, rfl⟩) hHeld ?_
    simp only [Act.put, List.setIfInBounds_toArray, List.set_cons_zero, List.set_cons_succ]
    refine wpAnyH_take (i := 26) (v := undef) nth26 (by kernel_rfl) (by kernel_rfl) (by kernel_rfl) (fun _ _ _ h => h) (Or.inr ⟨by rfl, rfl⟩) hHeld ?_
    simp only [Act.put, List.setIfInBounds_toArray, List.set_cons_zero, List.set_cons_succ]
    refine wpAnyH_take (i := 27) (v := undef) nth27 (by kernel_rfl) (by kernel_rfl) (by kernel_rfl) (fun _ _ _ h => h) (Or.inr ⟨by rfl, rfl⟩) hHeld ?_
    simp only [Act.put, List.setIfInBounds_toArray, List.set_cons_zero, List.set_cons_succ]
    refine wpAnyH_take (i := 28) (v := undef) nth28 (by kernel_rfl) (by kernel_rfl) (by kernel_rfl) (fun _ _ _ h => h) (Or.inr ⟨by rfl, rfl⟩) hHeld ?_
    simp only [Act.put, List.setIfInBounds_toArray, List.set_cons_zero, List.set_cons_succ]
    refine wpAnyH_take (i := 29) (v := undef) nth29 (by kernel_rfl) (by kernel_rfl) (by kernel_rfl) (fun _ _ _ h => h) (Or.inr ⟨by rfl, rfl⟩) hHeld ?_
    simp only [Act.put, List.setIfInBounds_toArray, List.set_cons_zero, List.set_cons_succ]
    refine wpAnyH_take (i := 30) (v := undef) nth30 (by kernel_rfl) (by kernel_rfl) (by kernel_rfl) (fun _ _ _ h => h) (Or.inr ⟨by rfl, rfl⟩) hHeld ?_
    simp only [Act.put, List.setIfInBounds_toArray, List.set_cons_zero, List.set_cons_succ]
    refine wpAnyH_take (i := 31) (v := undef) nth31 (by kernel_rfl) (by kernel_rfl) (by kernel_rfl) (fun _ _ _ h => h) (Or.inr ⟨by rfl, rfl⟩) hHeld ?_
    simp only [Act.put, List.setIfInBounds_toArray, List.set_cons_zero, List.set_cons_succ]
    refine wpAnyH_take (i := 32) (v := undef) nth32 (by kernel_rfl) (by kernel_rfl) (by kernel_rfl) (fun _ _ _ h => h) (Or.inr ⟨by rfl, rfl⟩) hHeld ?_
    simp only [Act.put, List.setIfInBounds_toArray, List.set_cons_zero, List.set_cons_succ]
    refine wpAnyH_take (i := 33) (v := undef) nth33 (by kernel_rfl) (by kernel_rfl) (by kernel_rfl) (fun _ _ _ h => h) (Or.inr ⟨by rfl, rfl⟩) hHeld ?_
    simp only [Act.put, List.setIfInBounds_toArray, List.set_cons_zero, List.set_cons_succ]
    refine wpAnyH_take (i := 34) (v := undef) nth34 (by kernel_rfl) (by kernel_rfl) (by kernel_rfl) (fun _ _ _ h => h) (Or.inr ⟨by rfl, rfl⟩) hHeld ?_
    simp only [Act.put, List.setIfInBounds_toArray, List.set_cons_zero, List.set_cons_succ]
    refine wpAnyH_take (i := 35) (v := undef) nth35 (by kernel_rfl) (by kernel_rfl) (by kernel_rfl) (fun _ _ _ h => h) (Or.inr ⟨by rfl, rfl⟩) hHeld ?_
    simp only [Act.put, List.setIfInBounds_toArray, List.set_cons_zero, List.set_cons_succ]
    refine wpAnyH_take (i := 36) (v := undef) nth36 (by kernel_rfl) (by kernel_rfl) (by kernel_rfl) (fun _ _ _ h => h) (Or.inr ⟨by rfl, rfl⟩) hHeld ?_
    simp only [Act.put, List.setIfInBounds_toArray, List.set_cons_zero, List.set_cons_succ]
    refine wpAnyH_take (i := 37) (v := ?vc37) nth37 (by kernel_rfl) (by kernel_rfl) (by kernel_rfl) (fun _ _ _ h => h) (Or.inl ⟨by rfl, ?hyc37⟩) hHeld ?_
    case hyc37 => (intro wH hSw; (try dsimp only at hSw); go_simp; (try with_reducible rfl))
    simp only [Act.put, List.setIfInBounds_toArray, List.set_cons_zero, List.set_cons_succ]
    refine wpAnyH_done (by kernel_rfl) ?_ _
    go_wp2_with fail
    go_ret
    exact ints_fin hfin.out (Owns.nil _ _) bb.out
  rw [h1.out] at e3 e4 hv
  rw [h2.out] at e3
  rw [h3.out] at e4
  have f1 : n2 ≤ 2 := by omega
  have f2 : 2 ≤ n2 := by omega
  have f3 : n3 ≤ 2 := by omega
  have f4 : 2 ≤ n3 := by omega
  have f5 : (0 : Int) < (n2 : Int) := by omega
  have f6 : (1 : Int) < (n2 : Int) := by omega
  have f7 : (0 : Int) < (n3 : Int) := by omega
  have f8 : (1 : Int) < (n3 : Int) := by omega
  have g5 : 0 < n2 := by omega
  have g6 : 1 < n2 := by omega
  have g7 : 0 < n3 := by omega
  have g8 : 1 < n3 := by omega
  clear e3 e4
  obtain ⟨_, ⟨v1, v2⟩, ⟨v3, v4⟩⟩ := hv 0 (by omega)
  obtain ⟨_, ⟨v5, v6⟩, ⟨v7, v8⟩⟩ := hv 1 (by omega)
  clear hv e1 e2
  have hl2 := Lib.hid (show l.length = 2 from by rw [h1.out]; omega)
  obtain ⟨a0_, hx0⟩ : ∃ a0_, lo.getD 0 0 = a0_ := ⟨_, rfl⟩
  obtain ⟨a1_, hx1⟩ : ∃ a1_, lo.getD 1 0 = a1_ := ⟨_, rfl⟩
  obtain ⟨e0_, hx2⟩ : ∃ e0_, hi.getD 0 0 = e0_ := ⟨_, rfl⟩
  obtain ⟨e1_, hx3⟩ : ∃ e1_, hi.getD 1 0 = e1_ := ⟨_, rfl⟩
  rw [hx0] at v1 v2 v3
  rw [hx1] at v5 v6 v7
  rw [hx2] at v3 v4
  rw [hx3] at v7 v8
  have hfits : M.fits l lo hi X Y ↔ (e0_ - a0_ + 1) * (e1_ - a1_ + 1) ≤ 40000 := by unfold M.fits; rw [hx0, hx1, hx2, hx3]; exact ⟨fun h => h.2.2.2, fun h => ⟨hA, hl2.out, hP, h⟩⟩
  replace hx0 := Lib.hid hx0
  replace hx1 := Lib.hid hx1
  replace hx2 := Lib.hid hx2
  replace hx3 := Lib.hid hx3
  obtain ⟨mp1, mp2⟩ := M.mul_bd (x := e0_ - a0_ + 1) (y := e1_ - a1_ + 1) (B := 361) (C := 361) (by omega) (by omega) (by omega) (by omega) (by omega)
  have ew0 : IntKind.i64.wrap ((e0_ - a0_ + 1) * (e1_ - a1_ + 1)) = (e0_ - a0_ + 1) * (e1_ - a1_ + 1) := IntWalk.i64_in _ (by omega)
  have ew1 : IntKind.i64.wrap (e0_ - a0_) = e0_ - a0_ := IntWalk.i64_in _ (by omega)
  have ew2 : IntKind.i64.wrap (e1_ - a1_) = e1_ - a1_ := IntWalk.i64_in _ (by omega)
  have ew3 : IntKind.i64.wrap (e0_ - a0_ + 1) = e0_ - a0_ + 1 := IntWalk.i64_in _ (by omega)
  have ew4 : IntKind.i64.wrap (e1_ - a1_ + 1) = e1_ - a1_ + 1 := IntWalk.i64_in _ (by omega)
  replace hA := Lib.hid hA
  replace hP := Lib.hid hP
  obtain ⟨b2, o2, rfl⟩ := hr.out.2.1.form (by rw [h2.out]; omega)
  obtain ⟨b3, o3, rfl⟩ := hr.out.2.2.form (by rw [h3.out]; omega)
  by_cases hq : ¬ (e0_ - a0_ + 1) * (e1_ - a1_ + 1) ≤ 40000
  · have hfin := Lib.hid (M.solve_no (l := l) (lo := lo) (hi := hi) (X := X) (Y := Y) (fun h => hq (hfits.1 h)))
    have hgt : decide ((40000 : Int) < (e0_ - a0_ + 1) * (e1_ - a1_ + 1)) = true := by simp; omega
    clear hfits
    have s := And.intro (And.intro (And.intro k0.c0 (And.intro k0.c1 k0.c2)) (And.intro kt.1 kt.2.1)) (And.intro (And.intro (rowv hr.out.2.1 (Below.refl _ _) (k := 0) (by rw [h2.out]; omega) hx0.out) (rowv hr.out.2.1 (Below.refl _ _) (k := 1) (by rw [h2.out]; omega) hx1.out)) (And.intro (rowv hr.out.2.2 (Below.refl _ _) (k := 0) (by rw [h3.out]; omega) hx2.out) (rowv hr.out.2.2 (Below.refl _ _) (k := 1) (by rw [h3.out]; omega) hx3.out)))
    refine wp_region_held_drew (S := (fun w' => ((w'.cell? ⟨w.heap.size, 0, none⟩ = some (.slice a1 n1 c1) ∧ w'.cell? ⟨w.heap.size, 1, none⟩ = some (.slice (some ⟨b2, o2, none⟩) n2 c2) ∧ w'.cell? ⟨w.heap.size, 2, none⟩ = some (.slice (some ⟨b3, o3, none⟩) n3 c3)) ∧ (w'.cell? ⟨w.heap.size + 1, 0, none⟩ = some (.int .i64 X) ∧ w'.cell? ⟨w.heap.size + 1, 1, none⟩ = some (.int .i64 Y))) ∧ ((w'.cell? ⟨b2, o2, none⟩ = some (.int .i64 a0_) ∧ w'.cell? ⟨b2, o2 + 1, none⟩ = some (.int .i64 a1_)) ∧ (w'.cell? ⟨b3, o3, none⟩ = some (.int .i64 e0_) ∧ w'.cell? ⟨b3, o3 + 1, none⟩ = some (.int .i64 e1_))))) (by kernel_rfl) s (fun hHeld => ?_)
    refine wpAnyH_take (i := 0) (v := ?vd0) nth0 (by kernel_rfl) (by kernel_rfl) (by kernel_rfl) (fun _ _ _ h => h) (Or.inl ⟨by rfl, ?hyd0⟩) hHeld ?_
    case hyd0 => (intro wH hSw; (try dsimp only at hSw); go_simp; (try with_reducible rfl))
    simp only [Act.put, List.setIfInBounds_toArray, List.set_cons_zero, List.set_cons_succ]
    refine wpAnyH_ready (rs := [1]) (by kernel_rfl) (by simp) ?_
    refine AllReadyH.cons nth1 (fun K hK => ?_) AllReadyH.nil
    go_simp
    (go_at_call 36; refine (impl_arm a1 (some ⟨b2, o2, none⟩) (some ⟨b3, o3, none⟩) n1 c1 n2 c2 n3 c3 l lo hi _ h1.out h2.out h3.out hm.out hr.out).mono ?_; rintro e wa ⟨rfl, q⟩; rw [hA.out]; replace bb := Lib.hid (bel_after bb.out q); replace k0 := k0.after q; replace kt := kt.after q; replace hr := Lib.hid (hr.out.after q); replace hT := Lib.hid (hT.out.later q); clear q s; have s := And.intro (And.intro (And.intro k0.c0 (And.intro k0.c1 k0.c2)) (And.intro kt.1 kt.2.1)) (And.intro (And.intro (rowv hr.out.2.1 (Below.refl _ _) (k := 0) (by rw [h2.out]; omega) hx0.out) (rowv hr.out.2.1 (Below.refl _ _) (k := 1) (by rw [h2.out]; omega) hx1.out)) (And.intro (rowv hr.out.2.2 (Below.refl _ _) (k := 0) (by rw [h3.out]; omega) hx2.out) (rowv hr.out.2.2 (Below.refl _ _) (k := 1) (by rw [h3.out]; omega) hx3.out))))
    clear hHeld
    refine hK.out _ _ s (fun hHeld => ?_)
    clear hK K
    refine wpAnyH_take (i := 2) (v := ?vd2) nth2 (by kernel_rfl) (by kernel_rfl) (by kernel_rfl) (fun _ _ _ h => h) (Or.inl ⟨by rfl, ?hyd2⟩) hHeld ?_
    case hyd2 => (intro wH hSw; (try dsimp only at hSw); go_simp; (try with_reducible rfl))
    simp only [Act.put, List.setIfInBounds_toArray, List.set_cons_zero, List.set_cons_succ]
    refine wpAnyH_take (i := 3) (v := ?vd3) nth3 (by kernel_rfl) (by kernel_rfl) (by kernel_rfl) (fun _ _ _ h => h) (Or.inl ⟨by rfl, ?hyd3⟩) hHeld ?_
    case hyd3 => (intro wH hSw; (try dsimp only at hSw); go_simp; (try with_reducible rfl))
    simp only [Act.put, List.setIfInBounds_toArray, List.set_cons_zero, List.set_cons_succ]
    refine wpAnyH_take (i := 4) (v := ?vd4) nth4 (by kernel_rfl) (by kernel_rfl) (by kernel_rfl) (fun _ _ _ h => h) (Or.inl ⟨by rfl, ?hyd4⟩) hHeld ?_
    case hyd4 => (intro wH hSw; (try dsimp only at hSw); go_simp; (try with_reducible rfl))
    simp only [Act.put, List.setIfInBounds_toArray, List.set_cons_zero, List.set_cons_succ]
    refine wpAnyH_take (i := 5) (v := ?vd5) nth5 (by kernel_rfl) (by kernel_rfl) (by kernel_rfl) (fun _ _ _ h => h) (Or.inl ⟨by rfl, ?hyd5⟩) hHeld ?_
    case hyd5 => (intro wH hSw; (try dsimp only at hSw); go_simp; (try with_reducible rfl))
    simp only [Act.put, List.setIfInBounds_toArray, List.set_cons_zero, List.set_cons_succ]
    refine wpAnyH_take (i := 6) (v := ?vd6) nth6 (by kernel_rfl) (by kernel_rfl) (by kernel_rfl) (fun _ _ _ h => h) (Or.inl ⟨by rfl, ?hyd6⟩) hHeld ?_
    case hyd6 => (intro wH hSw; (try dsimp only at hSw); go_simp; (try with_reducible rfl))
    simp only [Act.put, List.setIfInBounds_toArray, List.set_cons_zero, List.set_cons_succ]
    refine wpAnyH_take (i := 7) (v := ?vd7) nth7 (by kernel_rfl) (by kernel_rfl) (by kernel_rfl) (fun _ _ _ h => h) (Or.inl ⟨by rfl, ?hyd7⟩) hHeld ?_
    case hyd7 => (intro wH hSw; (try dsimp only at hSw); go_simp; (try with_reducible rfl))
    simp only [Act.put, List.setIfInBounds_toArray, List.set_cons_zero, List.set_cons_succ]
    refine wpAnyH_take (i := 8) (v := ?vd8) nth8 (by kernel_rfl) (by kernel_rfl) (by kernel_rfl) (fun _ _ _ h => h) (Or.inl ⟨by rfl, ?hyd8⟩) hHeld ?_
    case hyd8 => (intro wH hSw; (try dsimp only at hSw); go_simp; (try with_reducible rfl))
    simp only [Act.put, List.setIfInBounds_toArray, List.set_cons_zero, List.set_cons_succ]
    refine wpAnyH_take (i := 9) (v := ?vd9) nth9 (by kernel_rfl) (by kernel_rfl) (by kernel_rfl) (fun _ _ _ h => h) (Or.inl ⟨by rfl, ?hyd9⟩) hHeld ?_
    case hyd9 => (intro wH hSw; (try dsimp only at hSw); go_simp; (try with_reducible rfl))
    simp only [Act.put, List.setIfInBounds_toArray, List.set_cons_zero, List.set_cons_succ]
    refine wpAnyH_take (i := 10) (v := ?vd10) nth10 (by kernel_rfl) (by kernel_rfl) (by kernel_rfl) (fun _ _ _ h => h) (Or.inl ⟨by rfl, ?hyd10⟩) hHeld ?_
    case hyd10 => (intro wH hSw; (try dsimp only at hSw); go_simp; (try with_reducible rfl))
    simp only [Act.put, List.setIfInBounds_toArray, List.set_cons_zero, List.set_cons_succ]
    refine wpAnyH_ready (rs := [11]) (by kernel_rfl) (by simp) ?_
    refine AllReadyH.cons nth11 (fun K hK => ?_) AllReadyH.nil
    go_simp
    (go_at_call 37; refine (impl_pv X Y _).mono ?_; rintro e wp ⟨rfl, q⟩; rw [hP.out]; replace bb := Lib.hid (bel_after bb.out q); replace k0 := k0.after q; replace kt := kt.after q; replace hr := Lib.hid (hr.out.after q); replace hT := Lib.hid (hT.out.later q); clear q s; have s := And.intro (And.intro (And.intro k0.c0 (And.intro k0.c1 k0.c2)) (And.intro kt.1 kt.2.1)) (And.intro (And.intro (rowv hr.out.2.1 (Below.refl _ _) (k := 0) (by rw [h2.out]; omega) hx0.out) (rowv hr.out.2.1 (Below.refl _ _) (k := 1) (by rw [h2.out]; omega) hx1.out)) (And.intro (rowv hr.out.2.2 (Below.refl _ _) (k := 0) (by rw [h3.out]; omega) hx2.out) (rowv hr.out.2.2 (Below.refl _ _) (k := 1) (by rw [h3.out]; omega) hx3.out))))
    clear hHeld
    refine hK.out _ _ s (fun hHeld => ?_)
    clear hK K
    refine wpAnyH_take (i := 12) (v := ?vd12) nth12 (by kernel_rfl) (by kernel_rfl) (by kernel_rfl) (fun _ _ _ h => h) (Or.inl ⟨by rfl, ?hyd12⟩) hHeld ?_
    case hyd12 => (intro wH hSw; (try dsimp only at hSw); go_simp; (try with_reducible rfl))
    simp only [Act.put, List.setIfInBounds_toArray, List.set_cons_zero, List.set_cons_succ]
    refine wpAnyH_take (i := 13) (v := ?vd13) nth13 (by kernel_rfl) (by kernel_rfl) (by kernel_rfl) (fun _ _ _ h => h) (Or.inl ⟨by rfl, ?hyd13⟩) hHeld ?_
    case hyd13 => (intro wH hSw; (try dsimp only at hSw); go_simp; (try with_reducible rfl))
    simp only [Act.put, List.setIfInBounds_toArray, List.set_cons_zero, List.set_cons_succ]
    refine wpAnyH_take (i := 14) (v := ?vd14) nth14 (by kernel_rfl) (by kernel_rfl) (by kernel_rfl) (fun _ _ _ h => h) (Or.inl ⟨by rfl, ?hyd14⟩) hHeld ?_
    case hyd14 => (intro wH hSw; (try dsimp only at hSw); go_simp; (try with_reducible rfl))
    simp only [Act.put, List.setIfInBounds_toArray, List.set_cons_zero, List.set_cons_succ]
    refine wpAnyH_take (i := 15) (v := ?vd15) nth15 (by kernel_rfl) (by kernel_rfl) (by kernel_rfl) (fun _ _ _ h => h) (Or.inl ⟨by rfl, ?hyd15⟩) hHeld ?_
    case hyd15 => (intro wH hSw; (try dsimp only at hSw); go_simp; (try with_reducible rfl))
    simp only [Act.put, List.setIfInBounds_toArray, List.set_cons_zero, List.set_cons_succ]
    refine wpAnyH_take (i := 16) (v := ?vd16) nth16 (by kernel_rfl) (by kernel_rfl) (by kernel_rfl) (fun _ _ _ h => h) (Or.inl ⟨by rfl, ?hyd16⟩) hHeld ?_
    case hyd16 => (intro wH hSw; (try dsimp only at hSw); go_simp; (try with_reducible rfl))
    simp only [Act.put, List.setIfInBounds_toArray, List.set_cons_zero, List.set_cons_succ]
    refine wpAnyH_take (i := 17) (v := ?vd17) nth17 (by kernel_rfl) (by kernel_rfl) (by kernel_rfl) (fun _ _ _ h => h) (Or.inl ⟨by rfl, ?hyd17⟩) hHeld ?_
    case hyd17 => (intro wH hSw; (try dsimp only at hSw); go_simp; (try with_reducible rfl))
    simp only [Act.put, List.setIfInBounds_toArray, List.set_cons_zero, List.set_cons_succ]
    refine wpAnyH_take (i := 18) (v := ?vd18) nth18 (by kernel_rfl) (by kernel_rfl) (by kernel_rfl) (fun _ _ _ h => h) (Or.inl ⟨by rfl, ?hyd18⟩) hHeld ?_
    case hyd18 => (intro wH hSw; (try dsimp only at hSw); go_simp; (try with_reducible rfl))
    simp only [Act.put, List.setIfInBounds_toArray, List.set_cons_zero, List.set_cons_succ]
    refine wpAnyH_take (i := 19) (v := ?vd19) nth19 (by kernel_rfl) (by kernel_rfl) (by kernel_rfl) (fun _ _ _ h => h) (Or.inl ⟨by rfl, ?hyd19⟩) hHeld ?_
    case hyd19 => (intro wH hSw; (try dsimp only at hSw); go_simp; (try with_reducible rfl))
    simp only [Act.put, List.setIfInBounds_toArray, List.set_cons_zero, List.set_cons_succ]
    refine wpAnyH_take (i := 20) (v := ?vd20) nth20 (by kernel_rfl) (by kernel_rfl) (by kernel_rfl) (fun _ _ _ h => h) (Or.inl ⟨by rfl, ?hyd20⟩) hHeld ?_
    case hyd20 => (intro wH hSw; (try dsimp only at hSw); go_simp; (try with_reducible rfl))
    simp only [Act.put, List.setIfInBounds_toArray, List.set_cons_zero, List.set_cons_succ]
    refine wpAnyH_take (i := 21) (v := ?vd21) nth21 (by kernel_rfl) (by kernel_rfl) (by kernel_rfl) (fun _ _ _ h => h) (Or.inl ⟨by rfl, ?hyd21⟩) hHeld ?_
    case hyd21 => (intro wH hSw; (try dsimp only at hSw); go_simp; (try with_reducible rfl))
    simp only [Act.put, List.setIfInBounds_toArray, List.set_cons_zero, List.set_cons_succ]
    refine wpAnyH_take (i := 22) (v := ?vd22) nth22 (by kernel_rfl) (by kernel_rfl) (by kernel_rfl) (fun _ _ _ h => h) (Or.inl ⟨by rfl, ?hyd22⟩) hHeld ?_
    case hyd22 => (intro wH hSw; (try dsimp only at hSw); go_simp; (try with_reducible rfl))
    simp only [Act.put, List.setIfInBounds_toArray, List.set_cons_zero, List.set_cons_succ]
    refine wpAnyH_take (i := 23) (v := ?vd23) nth23 (by kernel_rfl) (by kernel_rfl) (by kernel_rfl) (fun _ _ _ h => h) (Or.inl ⟨by rfl, ?hyd23⟩) hHeld ?_
    case hyd23 => (intro wH hSw; (try dsimp only at hSw); go_simp; (try with_reducible rfl))
    simp only [Act.put, List.setIfInBounds_toArray, List.set_cons_zero, List.set_cons_succ]
    refine wpAnyH_take (i := 24) (v := ?vd24) nth24 (by kernel_rfl) (by kernel_rfl) (by kernel_rfl) (fun _ _ _ h => h) (Or.inl ⟨by rfl, ?hyd24⟩) hHeld ?_
    case hyd24 => (intro wH hSw; (try dsimp only at hSw); go_simp; (try with_reducible rfl))
    simp only [Act.put, List.setIfInBounds_toArray, List.set_cons_zero, List.set_cons_succ]
    refine wpAnyH_take (i := 25) (v := ?vd25) nth25 (by kernel_rfl) (by kernel_rfl) (by kernel_rfl) (fun _ _ _ h => h) (Or.inl ⟨by rfl, ?hyd25⟩) hHeld ?_
    case hyd25 => (intro wH hSw; (try dsimp only at hSw); go_simp; (try with_reducible rfl))
    simp only [Act.put, List.setIfInBounds_toArray, List.set_cons_zero, List.set_cons_succ]
    refine wpAnyH_take (i := 26) (v := ?vd26) nth26 (by kernel_rfl) (by kernel_rfl) (by kernel_rfl) (fun _ _ _ h => h) (Or.inl ⟨by rfl, ?hyd26⟩) hHeld ?_
    case hyd26 => (intro wH hSw; (try dsimp only at hSw); go_simp; (try with_reducible rfl))
    simp only [Act.put, List.setIfInBounds_toArray, List.set_cons_zero, List.set_cons_succ]
    refine wpAnyH_take (i := 27) (v := ?vd27) nth27 (by kernel_rfl) (by kernel_rfl) (by kernel_rfl) (fun _ _ _ h => h) (Or.inl ⟨by rfl, ?hyd27⟩) hHeld ?_
    case hyd27 => (intro wH hSw; (try dsimp only at hSw); go_simp; (try with_reducible rfl))
    simp only [Act.put, List.setIfInBounds_toArray, List.set_cons_zero, List.set_cons_succ]
    refine wpAnyH_take (i := 28) (v := ?vd28) nth28 (by kernel_rfl) (by kernel_rfl) (by kernel_rfl) (fun _ _ _ h => h) (Or.inl ⟨by rfl, ?hyd28⟩) hHeld ?_
    case hyd28 => (intro wH hSw; (try dsimp only at hSw); go_simp; (try with_reducible rfl))
    simp only [Act.put, List.setIfInBounds_toArray, List.set_cons_zero, List.set_cons_succ]
    refine wpAnyH_take (i := 29) (v := ?vd29) nth29 (by kernel_rfl) (by kernel_rfl) (by kernel_rfl) (fun _ _ _ h => h) (Or.inl ⟨by rfl, ?hyd29⟩) hHeld ?_
    case hyd29 => (intro wH hSw; (try dsimp only at hSw); go_simp; (try with_reducible rfl))
    simp only [Act.put, List.setIfInBounds_toArray, List.set_cons_zero, List.set_cons_succ]
    refine wpAnyH_take (i := 30) (v := ?vd30) nth30 (by kernel_rfl) (by kernel_rfl) (by kernel_rfl) (fun _ _ _ h => h) (Or.inl ⟨by rfl, ?hyd30⟩) hHeld ?_
    case hyd30 => (intro wH hSw; (try dsimp only at hSw); go_simp; (try with_reducible rfl))
    simp only [Act.put, List.setIfInBounds_toArray, List.set_cons_zero, List.set_cons_succ]
    refine wpAnyH_take (i := 31) (v := ?vd31) nth31 (by kernel_rfl) (by kernel_rfl) (by kernel_rfl) (fun _ _ _ h => h) (Or.inl ⟨by rfl, ?hyd31⟩) hHeld ?_
    case hyd31 => (intro wH hSw; (try dsimp only at hSw); go_simp; (try with_reducible rfl))
    simp only [Act.put, List.setIfInBounds_toArray, List.set_cons_zero, List.set_cons_succ]
    refine wpAnyH_take (i := 32) (v := ?vd32) nth32 (by kernel_rfl) (by kernel_rfl) (by kernel_rfl) (fun _ _ _ h => h) (Or.inl ⟨by rfl, ?hyd32⟩) hHeld ?_
    case hyd32 => (intro wH hSw; (try dsimp only at hSw); go_simp; (try with_reducible rfl))
    simp only [Act.put, List.setIfInBounds_toArray, List.set_cons_zero, List.set_cons_succ]
    refine wpAnyH_take (i := 33) (v := ?vd33) nth33 (by kernel_rfl) (by kernel_rfl) (by kernel_rfl) (fun _ _ _ h => h) (Or.inl ⟨by rfl, ?hyd33⟩) hHeld ?_
    case hyd33 => (intro wH hSw; (try dsimp only at hSw); go_simp; (try with_reducible rfl))
    simp only [Act.put, List.setIfInBounds_toArray, List.set_cons_zero, List.set_cons_succ]
    refine wpAnyH_take (i := 34) (v := ?vd34) nth34 (by kernel_rfl) (by kernel_rfl) (by kernel_rfl) (fun _ _ _ h => h) (Or.inl ⟨by rfl, ?hyd34⟩) hHeld ?_
    case hyd34 => (intro wH hSw; (try dsimp only at hSw); go_simp; (try with_reducible rfl))
    simp only [Act.put, List.setIfInBounds_toArray, List.set_cons_zero, List.set_cons_succ]
    refine wpAnyH_take (i := 35) (v := ?vd35) nth35 (by kernel_rfl) (by kernel_rfl) (by kernel_rfl) (fun _ _ _ h => h) (Or.inl ⟨by rfl, ?hyd35⟩) hHeld ?_
    case hyd35 => (intro wH hSw; (try dsimp only at hSw); go_simp; (try with_reducible rfl))
    simp only [Act.put, List.setIfInBounds_toArray, List.set_cons_zero, List.set_cons_succ]
    refine wpAnyH_take (i := 36) (v := ?vd36) nth36 (by kernel_rfl) (by kernel_rfl) (by kernel_rfl) (fun _ _ _ h => h) (Or.inl ⟨by rfl, ?hyd36⟩) hHeld ?_
    case hyd36 => (intro wH hSw; (try dsimp only at hSw); go_simp; (try with_reducible rfl))
    simp only [Act.put, List.setIfInBounds_toArray, List.set_cons_zero, List.set_cons_succ]
    refine wpAnyH_take (i := 37) (v := ?vd37) nth37 (by kernel_rfl) (by kernel_rfl) (by kernel_rfl) (fun _ _ _ h => h) (Or.inl ⟨by rfl, ?hyd37⟩) hHeld ?_
    case hyd37 => (intro wH hSw; (try dsimp only at hSw); go_simp; (try with_reducible rfl))
    simp only [Act.put, List.setIfInBounds_toArray, List.set_cons_zero, List.set_cons_succ]
    refine wpAnyH_done (by kernel_rfl) ?_ _
    go_wp2_with fail
    go_ret
    exact ints_fin hfin.out (Owns.nil _ _) bb.out
  replace hq : (e0_ - a0_ + 1) * (e1_ - a1_ + 1) ≤ 40000 := by omega
  have hfin := Lib.hid (M.solve_yes (hfits.2 hq))
  clear hfits
  have hgt : decide ((40000 : Int) < (e0_ - a0_ + 1) * (e1_ - a1_ + 1)) = false := by simp; omega
  have s := And.intro (And.intro (And.intro k0.c0 (And.intro k0.c1 k0.c2)) (And.intro kt.1 kt.2.1)) (And.intro (And.intro (rowv hr.out.2.1 (Below.refl _ _) (k := 0) (by rw [h2.out]; omega) hx0.out) (rowv hr.out.2.1 (Below.refl _ _) (k := 1) (by rw [h2.out]; omega) hx1.out)) (And.intro (rowv hr.out.2.2 (Below.refl _ _) (k := 0) (by rw [h3.out]; omega) hx2.out) (rowv hr.out.2.2 (Below.refl _ _) (k := 1) (by rw [h3.out]; omega) hx3.out)))
  refine wp_region_held_drew (S := (fun w' => ((w'.cell? ⟨w.heap.size, 0, none⟩ = some (.slice a1 n1 c1) ∧ w'.cell? ⟨w.heap.size, 1, none⟩ = some (.slice (some ⟨b2, o2, none⟩) n2 c2) ∧ w'.cell? ⟨w.heap.size, 2, none⟩ = some (.slice (some ⟨b3, o3, none⟩) n3 c3)) ∧ (w'.cell? ⟨w.heap.size + 1, 0, none⟩ = some (.int .i64 X) ∧ w'.cell? ⟨w.heap.size + 1, 1, none⟩ = some (.int .i64 Y))) ∧ ((w'.cell? ⟨b2, o2, none⟩ = some (.int .i64 a0_) ∧ w'.cell? ⟨b2, o2 + 1, none⟩ = some (.int .i64 a1_)) ∧ (w'.cell? ⟨b3, o3, none⟩ = some (.int .i64 e0_) ∧ w'.cell? ⟨b3, o3 + 1, none⟩ = some (.int .i64 e1_))))) (by kernel_rfl) s (fun hHeld => ?_)
  refine wpAnyH_take (i := 0) (v := ?ve0) nth0 (by kernel_rfl) (by kernel_rfl) (by kernel_rfl) (fun _ _ _ h => h) (Or.inl ⟨by rfl, ?hye0⟩) hHeld ?_
  case hye0 => (intro wH hSw; (try dsimp only at hSw); go_simp; (try with_reducible rfl))
  simp only [Act.put, List.setIfInBounds_toArray, List.set_cons_zero, List.set_cons_succ]
  refine wpAnyH_ready (rs := [1]) (by kernel_rfl) (by simp) ?_
  refine AllReadyH.cons nth1 (fun K hK => ?_) AllReadyH.nil
  go_simp
  (go_at_call 36; refine (impl_arm a1 (some ⟨b2, o2, none⟩) (some ⟨b3, o3, none⟩) n1 c1 n2 c2 n3 c3 l lo hi _ h1.out h2.out h3.out hm.out hr.out).mono ?_; rintro e wa ⟨rfl, q⟩; rw [hA.out]; replace bb := Lib.hid (bel_after bb.out q); replace k0 := k0.after q; replace kt := kt.after q; replace hr := Lib.hid (hr.out.after q); replace hT := Lib.hid (hT.out.later q); clear q s; have s := And.intro (And.intro (And.intro k0.c0 (And.intro k0.c1 k0.c2)) (And.intro kt.1 kt.2.1)) (And.intro (And.intro (rowv hr.out.2.1 (Below.refl _ _) (k := 0) (by rw [h2.out]; omega) hx0.out) (rowv hr.out.2.1 (Below.refl _ _) (k := 1) (by rw [h2.out]; omega) hx1.out)) (And.intro (rowv hr.out.2.2 (Below.refl _ _) (k := 0) (by rw [h3.out]; omega) hx2.out) (rowv hr.out.2.2 (Below.refl _ _) (k := 1) (by rw [h3.out]; omega) hx3.out))))
  clear hHeld
  refine hK.out _ _ s (fun hHeld => ?_)
  clear hK K
  refine wpAnyH_take (i := 2) (v := ?ve2) nth2 (by kernel_rfl) (by kernel_rfl) (by kernel_rfl) (fun _ _ _ h => h) (Or.inl ⟨by rfl, ?hye2⟩) hHeld ?_
  case hye2 => (intro wH hSw; (try dsimp only at hSw); go_simp; (try with_reducible rfl))
  simp only [Act.put, List.setIfInBounds_toArray, List.set_cons_zero, List.set_cons_succ]
  refine wpAnyH_take (i := 3) (v := ?ve3) nth3 (by kernel_rfl) (by kernel_rfl) (by kernel_rfl) (fun _ _ _ h => h) (Or.inl ⟨by rfl, ?hye3⟩) hHeld ?_
  case hye3 => (intro wH hSw; (try dsimp only at hSw); go_simp; (try with_reducible rfl))
  simp only [Act.put, List.setIfInBounds_toArray, List.set_cons_zero, List.set_cons_succ]
  refine wpAnyH_take (i := 4) (v := ?ve4) nth4 (by kernel_rfl) (by kernel_rfl) (by kernel_rfl) (fun _ _ _ h => h) (Or.inl ⟨by rfl, ?hye4⟩) hHeld ?_
  case hye4 => (intro wH hSw; (try dsimp only at hSw); go_simp; (try with_reducible rfl))
  simp only [Act.put, List.setIfInBounds_toArray, List.set_cons_zero, List.set_cons_succ]
  refine wpAnyH_take (i := 5) (v := ?ve5) nth5 (by kernel_rfl) (by kernel_rfl) (by kernel_rfl) (fun _ _ _ h => h) (Or.inl ⟨by rfl, ?hye5⟩) hHeld ?_
  case hye5 => (intro wH hSw; (try dsimp only at hSw); go_simp; (try with_reducible rfl))
  simp only [Act.put, List.setIfInBounds_toArray, List.set_cons_zero, List.set_cons_succ]
  refine wpAnyH_take (i := 6) (v := ?ve6) nth6 (by kernel_rfl) (by kernel_rfl) (by kernel_rfl) (fun _ _ _ h => h) (Or.inl ⟨by rfl, ?hye6⟩) hHeld ?_
  case hye6 => (intro wH hSw; (try dsimp only at hSw); go_simp; (try with_reducible rfl))
  simp only [Act.put, List.setIfInBounds_toArray, List.set_cons_zero, List.set_cons_succ]
  refine wpAnyH_take (i := 7) (v := ?ve7) nth7 (by kernel_rfl) (by kernel_rfl) (by kernel_rfl) (fun _ _ _ h => h) (Or.inl ⟨by rfl, ?hye7⟩) hHeld ?_
  case hye7 => (intro wH hSw; (try dsimp only at hSw); go_simp; (try with_reducible rfl))
  simp only [Act.put, List.setIfInBounds_toArray, List.set_cons_zero, List.set_cons_succ]
  refine wpAnyH_take (i := 8) (v := ?ve8) nth8 (by kernel_rfl) (by kernel_rfl) (by kernel_rfl) (fun _ _ _ h => h) (Or.inl ⟨by rfl, ?hye8⟩) hHeld ?_
  case hye8 => (intro wH hSw; (try dsimp only at hSw); go_simp; (try with_reducible rfl))
  simp only [Act.put, List.setIfInBounds_toArray, List.set_cons_zero, List.set_cons_succ]
  refine wpAnyH_take (i := 9) (v := ?ve9) nth9 (by kernel_rfl) (by kernel_rfl) (by kernel_rfl) (fun _ _ _ h => h) (Or.inl ⟨by rfl, ?hye9⟩) hHeld ?_
  case hye9 => (intro wH hSw; (try dsimp only at hSw); go_simp; (try with_reducible rfl))
  simp only [Act.put, List.setIfInBounds_toArray, List.set_cons_zero, List.set_cons_succ]
  refine wpAnyH_take (i := 10) (v := ?ve10) nth10 (by kernel_rfl) (by kernel_rfl) (by kernel_rfl) (fun _ _ _ h => h) (Or.inl ⟨by rfl, ?hye10⟩) hHeld ?_
  case hye10 => (intro wH hSw; (try dsimp only at hSw); go_simp; (try with_reducible rfl))
  simp only [Act.put, List.setIfInBounds_toArray, List.set_cons_zero, List.set_cons_succ]
  refine wpAnyH_ready (rs := [11]) (by kernel_rfl) (by simp) ?_
  refine AllReadyH.cons nth11 (fun K hK => ?_) AllReadyH.nil
  go_simp
  (go_at_call 37; refine (impl_pv X Y _).mono ?_; rintro e wp ⟨rfl, q⟩; rw [hP.out]; replace bb := Lib.hid (bel_after bb.out q); replace k0 := k0.after q; replace kt := kt.after q; replace hr := Lib.hid (hr.out.after q); replace hT := Lib.hid (hT.out.later q); clear q s; have s := And.intro (And.intro (And.intro k0.c0 (And.intro k0.c1 k0.c2)) (And.intro kt.1 kt.2.1)) (And.intro (And.intro (rowv hr.out.2.1 (Below.refl _ _) (k := 0) (by rw [h2.out]; omega) hx0.out) (rowv hr.out.2.1 (Below.refl _ _) (k := 1) (by rw [h2.out]; omega) hx1.out)) (And.intro (rowv hr.out.2.2 (Below.refl _ _) (k := 0) (by rw [h3.out]; omega) hx2.out) (rowv hr.out.2.2 (Below.refl _ _) (k := 1) (by rw [h3.out]; omega) hx3.out))))
  clear hHeld
  refine hK.out _ _ s (fun hHeld => ?_)
  clear hK K
  refine wpAnyH_take (i := 12) (v := ?ve12) nth12 (by kernel_rfl) (by kernel_rfl) (by kernel_rfl) (fun _ _ _ h => h) (Or.inl ⟨by rfl, ?hye12⟩) hHeld ?_
  case hye12 => (intro wH hSw; (try dsimp only at hSw); go_simp; (try with_reducible rfl))
  simp only [Act.put, List.setIfInBounds_toArray, List.set_cons_zero, List.set_cons_succ]
  refine wpAnyH_take (i := 13) (v := ?ve13) nth13 (by kernel_rfl) (by kernel_rfl) (by kernel_rfl) (fun _ _ _ h => h) (Or.inl ⟨by rfl, ?hye13⟩) hHeld ?_
  case hye13 => (intro wH hSw; (try dsimp only at hSw); go_simp; (try with_reducible rfl))
  simp only [Act.put, List.setIfInBounds_toArray, List.set_cons_zero, List.set_cons_succ]
  refine wpAnyH_take (i := 14) (v := ?ve14) nth14 (by kernel_rfl) (by kernel_rfl) (by kernel_rfl) (fun _ _ _ h => h) (Or.inl ⟨by rfl, ?hye14⟩) hHeld ?_
  case hye14 => (intro wH hSw; (try dsimp only at hSw); go_simp; (try with_reducible rfl))
  simp only [Act.put, List.setIfInBounds_toArray, List.set_cons_zero, List.set_cons_succ]
  refine wpAnyH_take (i := 15) (v := ?ve15) nth15 (by kernel_rfl) (by kernel_rfl) (by kernel_rfl) (fun _ _ _ h => h) (Or.inl ⟨by rfl, ?hye15⟩) hHeld ?_
  case hye15 => (intro wH hSw; (try dsimp only at hSw); go_simp; (try with_reducible rfl))
  simp only [Act.put, List.setIfInBounds_toArray, List.set_cons_zero, List.set_cons_succ]
  refine wpAnyH_take (i := 16) (v := ?ve16) nth16 (by kernel_rfl) (by kernel_rfl) (by kernel_rfl) (fun _ _ _ h => h) (Or.inl ⟨by rfl, ?hye16⟩) hHeld ?_
  case hye16 => (intro wH hSw; (try dsimp only at hSw); go_simp; (try with_reducible rfl))
  simp only [Act.put, List.setIfInBounds_toArray, List.set_cons_zero, List.set_cons_succ]
  refine wpAnyH_take (i := 17) (v := ?ve17) nth17 (by kernel_rfl) (by kernel_rfl) (by kernel_rfl) (fun _ _ _ h => h) (Or.inl ⟨by rfl, ?hye17⟩) hHeld ?_
  case hye17 => (intro wH hSw; (try dsimp only at hSw); go_simp; (try with_reducible rfl))
  simp only [Act.put, List.setIfInBounds_toArray, List.set_cons_zero, List.set_cons_succ]
  refine wpAnyH_take (i := 18) (v := ?ve18) nth18 (by kernel_rfl) (by kernel_rfl) (by kernel_rfl) (fun _ _ _ h => h) (Or.inl ⟨by rfl, ?hye18⟩) hHeld ?_
  case hye18 => (intro wH hSw; (try dsimp only at hSw); go_simp; (try with_reducible rfl))
  simp only [Act.put, List.setIfInBounds_toArray, List.set_cons_zero, List.set_cons_succ]
  refine wpAnyH_take (i := 19) (v := ?ve19) nth19 (by kernel_rfl) (by kernel_rfl) (by kernel_rfl) (fun _ _ _ h => h) (Or.inl ⟨by rfl, ?hye19⟩) hHeld ?_
  case hye19 => (intro wH hSw; (try dsimp only at hSw); go_simp; (try with_reducible rfl))
  simp only [Act.put, List.setIfInBounds_toArray, List.set_cons_zero, List.set_cons_succ]
  refine wpAnyH_take (i := 20) (v := ?ve20) nth20 (by kernel_rfl) (by kernel_rfl) (by kernel_rfl) (fun _ _ _ h => h) (Or.inl ⟨by rfl, ?hye20⟩) hHeld ?_
  case hye20 => (intro wH hSw; (try dsimp only at hSw); go_simp; (try with_reducible rfl))
  simp only [Act.put, List.setIfInBounds_toArray, List.set_cons_zero, List.set_cons_succ]
  refine wpAnyH_take (i := 21) (v := ?ve21) nth21 (by kernel_rfl) (by kernel_rfl) (by kernel_rfl) (fun _ _ _ h => h) (Or.inl ⟨by rfl, ?hye21⟩) hHeld ?_
  case hye21 => (intro wH hSw; (try dsimp only at hSw); go_simp; (try with_reducible rfl))
  simp only [Act.put, List.setIfInBounds_toArray, List.set_cons_zero, List.set_cons_succ]
  refine wpAnyH_take (i := 22) (v := ?ve22) nth22 (by kernel_rfl) (by kernel_rfl) (by kernel_rfl) (fun _ _ _ h => h) (Or.inl ⟨by rfl, ?hye22⟩) hHeld ?_
  case hye22 => (intro wH hSw; (try dsimp only at hSw); go_simp; (try with_reducible rfl))
  simp only [Act.put, List.setIfInBounds_toArray, List.set_cons_zero, List.set_cons_succ]
  refine wpAnyH_take (i := 23) (v := ?ve23) nth23 (by kernel_rfl) (by kernel_rfl) (by kernel_rfl) (fun _ _ _ h => h) (Or.inl ⟨by rfl, ?hye23⟩) hHeld ?_
  case hye23 => (intro wH hSw; (try dsimp only at hSw); go_simp; (try with_reducible rfl))
  simp only [Act.put, List.setIfInBounds_toArray, List.set_cons_zero, List.set_cons_succ]
  refine wpAnyH_take (i := 24) (v := ?ve24) nth24 (by kernel_rfl) (by kernel_rfl) (by kernel_rfl) (fun _ _ _ h => h) (Or.inl ⟨by rfl, ?hye24⟩) hHeld ?_
  case hye24 => (intro wH hSw; (try dsimp only at hSw); go_simp; (try with_reducible rfl))
  simp only [Act.put, List.setIfInBounds_toArray, List.set_cons_zero, List.set_cons_succ]
  refine wpAnyH_take (i := 25) (v := ?ve25) nth25 (by kernel_rfl) (by kernel_rfl) (by kernel_rfl) (fun _ _ _ h => h) (Or.inl ⟨by rfl, ?hye25⟩) hHeld ?_
  case hye25 => (intro wH hSw; (try dsimp only at hSw); go_simp; (try with_reducible rfl))
  simp only [Act.put, List.setIfInBounds_toArray, List.set_cons_zero, List.set_cons_succ]
  refine wpAnyH_take (i := 26) (v := ?ve26) nth26 (by kernel_rfl) (by kernel_rfl) (by kernel_rfl) (fun _ _ _ h => h) (Or.inl ⟨by rfl, ?hye26⟩) hHeld ?_
  case hye26 => (intro wH hSw; (try dsimp only at hSw); go_simp; (try with_reducible rfl))
  simp only [Act.put, List.setIfInBounds_toArray, List.set_cons_zero, List.set_cons_succ]
  refine wpAnyH_take (i := 27) (v := ?ve27) nth27 (by kernel_rfl) (by kernel_rfl) (by kernel_rfl) (fun _ _ _ h => h) (Or.inl ⟨by rfl, ?hye27⟩) hHeld ?_
  case hye27 => (intro wH hSw; (try dsimp only at hSw); go_simp; (try with_reducible rfl))
  simp only [Act.put, List.setIfInBounds_toArray, List.set_cons_zero, List.set_cons_succ]
  refine wpAnyH_take (i := 28) (v := ?ve28) nth28 (by kernel_rfl) (by kernel_rfl) (by kernel_rfl) (fun _ _ _ h => h) (Or.inl ⟨by rfl, ?hye28⟩) hHeld ?_
  case hye28 => (intro wH hSw; (try dsimp only at hSw); go_simp; (try with_reducible rfl))
  simp only [Act.put, List.setIfInBounds_toArray, List.set_cons_zero, List.set_cons_succ]
  refine wpAnyH_take (i := 29) (v := ?ve29) nth29 (by kernel_rfl) (by kernel_rfl) (by kernel_rfl) (fun _ _ _ h => h) (Or.inl ⟨by rfl, ?hye29⟩) hHeld ?_
  case hye29 => (intro wH hSw; (try dsimp only at hSw); go_simp; (try with_reducible rfl))
  simp only [Act.put, List.setIfInBounds_toArray, List.set_cons_zero, List.set_cons_succ]
  refine wpAnyH_take (i := 30) (v := ?ve30) nth30 (by kernel_rfl) (by kernel_rfl) (by kernel_rfl) (fun _ _ _ h => h) (Or.inl ⟨by rfl, ?hye30⟩) hHeld ?_
  case hye30 => (intro wH hSw; (try dsimp only at hSw); go_simp; (try with_reducible rfl))
  simp only [Act.put, List.setIfInBounds_toArray, List.set_cons_zero, List.set_cons_succ]
  refine wpAnyH_take (i := 31) (v := ?ve31) nth31 (by kernel_rfl) (by kernel_rfl) (by kernel_rfl) (fun _ _ _ h => h) (Or.inl ⟨by rfl, ?hye31⟩) hHeld ?_
  case hye31 => (intro wH hSw; (try dsimp only at hSw); go_simp; (try with_reducible rfl))
  simp only [Act.put, List.setIfInBounds_toArray, List.set_cons_zero, List.set_cons_succ]
  refine wpAnyH_take (i := 32) (v := ?ve32) nth32 (by kernel_rfl) (by kernel_rfl) (by kernel_rfl) (fun _ _ _ h => h) (Or.inl ⟨by rfl, ?hye32⟩) hHeld ?_
  case hye32 => (intro wH hSw; (try dsimp only at hSw); go_simp; (try with_reducible rfl))
  simp only [Act.put, List.setIfInBounds_toArray, List.set_cons_zero, List.set_cons_succ]
  refine wpAnyH_take (i := 33) (v := ?ve33) nth33 (by kernel_rfl) (by kernel_rfl) (by kernel_rfl) (fun _ _ _ h => h) (Or.inl ⟨by rfl, ?hye33⟩) hHeld ?_
  case hye33 => (intro wH hSw; (try dsimp only at hSw); go_simp; (try with_reducible rfl))
  simp only [Act.put, List.setIfInBounds_toArray, List.set_cons_zero, List.set_cons_succ]
  refine wpAnyH_take (i := 34) (v := ?ve34) nth34 (by kernel_rfl) (by kernel_rfl) (by kernel_rfl) (fun _ _ _ h => h) (Or.inl ⟨by rfl, ?hye34⟩) hHeld ?_
  case hye34 => (intro wH hSw; (try dsimp only at hSw); go_simp; (try with_reducible rfl))
  simp only [Act.put, List.setIfInBounds_toArray, List.set_cons_zero, List.set_cons_succ]
  refine wpAnyH_take (i := 35) (v := ?ve35) nth35 (by kernel_rfl) (by kernel_rfl) (by kernel_rfl) (fun _ _ _ h => h) (Or.inl ⟨by rfl, ?hye35⟩) hHeld ?_
  case hye35 => (intro wH hSw; (try dsimp only at hSw); go_simp; (try with_reducible rfl))
  simp only [Act.put, List.setIfInBounds_toArray, List.set_cons_zero, List.set_cons_succ]
  refine wpAnyH_take (i := 36) (v := ?ve36) nth36 (by kernel_rfl) (by kernel_rfl) (by kernel_rfl) (fun _ _ _ h => h) (Or.inl ⟨by rfl, ?hye36⟩) hHeld ?_
  case hye36 => (intro wH hSw; (try dsimp only at hSw); go_simp; (try with_reducible rfl))
  simp only [Act.put, List.setIfInBounds_toArray, List.set_cons_zero, List.set_cons_succ]
  refine wpAnyH_take (i := 37) (v := ?ve37) nth37 (by kernel_rfl) (by kernel_rfl) (by kernel_rfl) (fun _ _ _ h => h) (Or.inl ⟨by rfl, ?hye37⟩) hHeld ?_
  case hye37 => (intro wH hSw; (try dsimp only at hSw); go_simp; (try with_reducible rfl))
  simp only [Act.put, List.setIfInBounds_toArray, List.set_cons_zero, List.set_cons_succ]
  refine wpAnyH_done (by kernel_rfl) ?_ _
  clear s hq hgt ew0 ew1 ew2 ew3 ew4 mp1 mp2
  obtain ⟨v0, rfl⟩ : ∃ u : World, u = wp := ⟨_, rfl⟩
  have k0_ := k0
  have kt_ := kt
  have hr_ := hr
  have hT_ := hT
  have bb_ := bb
  clear hHeld
  have kL := Slot.new v0 0 0 63
  obtain ⟨KK, hKK⟩ : ∃ n : Nat, n = (e0_ - a0_ + 1).toNat := ⟨_, rfl⟩
  obtain ⟨MM, hMM⟩ : ∃ n : Nat, n = (e1_ - a1_ + 1).toNat := ⟨_, rfl⟩
  have hfound := Lib.hid (show M.found l lo hi X Y = M.slvX l X Y a0_ a1_ MM KK from by unfold M.found; rw [hx0.out, hx1.out, hx2.out, hx3.out, ← hKK, ← hMM])
  have hKe : (KK : Int) = e0_ - a0_ + 1 := by omega
  have hMe : (MM : Int) = e1_ - a1_ + 1 := by omega
  clear hKK hMM
  go_upto_region 5 with fail
  have bc := Lib.hid (bel_new v0 (.cells #[.int .i64 0, .int .i64 0] 63))
  replace k0 := k0_.after bc.out
  replace kt := kt_.after bc.out
  replace hr := Lib.hid (hr_.out.after bc.out)
  replace hT := Lib.hid (hT_.out.later bc.out)
  replace bb := Lib.hid (bel_after bb_.out bc.out)
  obtain ⟨Lb, hLb⟩ : ∃ L, L = v0.heap.size := ⟨_, rfl⟩
  rw [← hLb] at kL ⊢
  replace hLb := Lib.hid hLb
  generalize v0.alloc (.cells #[.int .i64 0, .int .i64 0] 63) = va at *
  obtain ⟨x0, x1, x2, x3, x4, x5⟩ := id k0
  obtain ⟨t0, t1, t2, t3, t4⟩ := id kt
  obtain ⟨⟨y20, y21⟩, y30, y31⟩ := (show ((va.cell? ⟨b2, o2, none⟩ = some (.int .i64 a0_) ∧ va.cell? ⟨b2, o2 + 1, none⟩ = some (.int .i64 a1_)) ∧ (va.cell? ⟨b3, o3, none⟩ = some (.int .i64 e0_) ∧ va.cell? ⟨b3, o3 + 1, none⟩ = some (.int .i64 e1_))) from (And.intro (And.intro (rowv hr.out.2.1 (Below.refl _ _) (k := 0) (by rw [h2.out]; omega) hx0.out) (rowv hr.out.2.1 (Below.refl _ _) (k := 1) (by rw [h2.out]; omega) hx1.out)) (And.intro (rowv hr.out.2.2 (Below.refl _ _) (k := 0) (by rw [h3.out]; omega) hx2.out) (rowv hr.out.2.2 (Below.refl _ _) (k := 1) (by rw [h3.out]; omega) hx3.out))))
  go_wp2_with fail
  clear x0 x1 x2 x3 x4 x5 t0 t1 t2 t3 t4 y20 y21 y30 y31
  go_loopw [5, 7] (fun bv xv wr => ∃ k : Nat, xv = .int .i64 (a0_ + k) ∧ k ≤ KK ∧ Hid (BestI wr w.heap.size Lb l X Y bv (M.slvX l X Y a0_ a1_ MM k)) ∧ Hid (Below v0.heap.size v0 wr)) (fun _ xv _ => (e0_ + 1 - intOf xv).toNat)
  case atStart => exact ⟨0, by simp, Nat.zero_le _, BestI.start kL, bc⟩
  case round =>
    clear kL bc
    obtain ⟨k, rfl, hk, hB, bc⟩ := hrel
    replace k0 := k0_.after bc.out
    replace kt := kt_.after bc.out
    replace hr := Lib.hid (hr_.out.after bc.out)
    replace hT := Lib.hid (hT_.out.later bc.out)
    replace bb := Lib.hid (bel_after bb_.out bc.out)
    have hstep := Lib.hid (show M.slvX l X Y a0_ a1_ MM (k + 1) = M.slvY l X Y a1_ (a0_ + k) (M.slvX l X Y a0_ a1_ MM k) MM from rfl)
    generalize hxe : a0_ + (k : Int) = x at hstep ⊢
    by_cases hlt : k < KK
    · have hle : x ≤ e0_ := by omega
      have hx6 : -360 ≤ x ∧ x ≤ 360 := by omega
      have ewx : IntKind.i64.wrap (x + 1) = x + 1 := IntWalk.i64_in _ (by omega)
      generalize M.slvX l X Y a0_ a1_ MM k = b0 at *
      have hle2 : decide (x ≤ e0_) = true := by simp; omega
      obtain ⟨x0, x1, x2, x3, x4, x5⟩ := id k0
      obtain ⟨t0, t1, t2, t3, t4⟩ := id kt
      obtain ⟨⟨y20, y21⟩, y30, y31⟩ := (show ((wr.cell? ⟨b2, o2, none⟩ = some (.int .i64 a0_) ∧ wr.cell? ⟨b2, o2 + 1, none⟩ = some (.int .i64 a1_)) ∧ (wr.cell? ⟨b3, o3, none⟩ = some (.int .i64 e0_) ∧ wr.cell? ⟨b3, o3 + 1, none⟩ = some (.int .i64 e1_))) from (And.intro (And.intro (rowv hr.out.2.1 (Below.refl _ _) (k := 0) (by rw [h2.out]; omega) hx0.out) (rowv hr.out.2.1 (Below.refl _ _) (k := 1) (by rw [h2.out]; omega) hx1.out)) (And.intro (rowv hr.out.2.2 (Below.refl _ _) (k := 0) (by rw [h3.out]; omega) hx2.out) (rowv hr.out.2.2 (Below.refl _ _) (k := 1) (by rw [h3.out]; omega) hx3.out))))
      go_wp2_with fail
      clear x0 x1 x2 x3 x4 x5 t0 t1 t2 t3 t4 y20 y21 y30 y31
      go_loopw [5, 8] (fun bv yv wr => ∃ i : Nat, yv = .int .i64 (a1_ + i) ∧ i ≤ MM ∧ Hid (BestI wr w.heap.size Lb l X Y bv (M.slvY l X Y a1_ x b0 i)) ∧ Hid (Below v0.heap.size v0 wr)) (fun _ yv _ => (e1_ + 1 - intOf yv).toNat)
      case atStart => exact ⟨0, by simp, Nat.zero_le _, hB, bc⟩
      case round =>
        clear hB bc
        obtain ⟨i, rfl, hik, hB, bc⟩ := hrel
        replace k0 := k0_.after bc.out
        replace kt := kt_.after bc.out
        replace hr := Lib.hid (hr_.out.after bc.out)
        replace hT := Lib.hid (hT_.out.later bc.out)
        replace bb := Lib.hid (bel_after bb_.out bc.out)
        have hst2 := Lib.hid (show M.slvY l X Y a1_ x b0 (i + 1) = M.slv l X Y (M.slvY l X Y a1_ x b0 i) x (a1_ + i) from rfl)
        generalize hye : a1_ + (i : Int) = y at hst2 ⊢
        generalize hb1 : M.slvY l X Y a1_ x b0 i = b1 at hB hst2
        replace hb1 := Lib.hid hb1
        by_cases hli : i < MM
        · have hle3 : y ≤ e1_ := by omega
          have hy6 : -360 ≤ y ∧ y ≤ 360 := by omega
          have ewy : IntKind.i64.wrap (y + 1) = y + 1 := IntWalk.i64_in _ (by omega)
          have hle4 : decide (y ≤ e1_) = true := by simp; omega
          have hC := Lib.hid (M.joints_in hA.out hl2.out hx0.out hx1.out hx2.out hx3.out (x := x) (y := y) (by omega) (by omega))
          have oj := Owns.lit2 wr x y (B := w.heap.size) bb.out.size
          obtain ⟨J, hJ⟩ : ∃ J, J = wr.heap.size := ⟨_, rfl⟩
          have hJL : Lb < J := by obtain ⟨p, q, kL, _⟩ := hB.out; rw [hJ]; exact kL.2.2.2.2
          obtain ⟨x0, x1, x2, x3, x4, x5⟩ := id k0
          obtain ⟨t0, t1, t2, t3, t4⟩ := id kt
          obtain ⟨⟨y20, y21⟩, y30, y31⟩ := (show ((wr.cell? ⟨b2, o2, none⟩ = some (.int .i64 a0_) ∧ wr.cell? ⟨b2, o2 + 1, none⟩ = some (.int .i64 a1_)) ∧ (wr.cell? ⟨b3, o3, none⟩ = some (.int .i64 e0_) ∧ wr.cell? ⟨b3, o3 + 1, none⟩ = some (.int .i64 e1_))) from (And.intro (And.intro (rowv hr.out.2.1 (Below.refl _ _) (k := 0) (by rw [h2.out]; omega) hx0.out) (rowv hr.out.2.1 (Below.refl _ _) (k := 1) (by rw [h2.out]; omega) hx1.out)) (And.intro (rowv hr.out.2.2 (Below.refl _ _) (k := 0) (by rw [h3.out]; omega) hx2.out) (rowv hr.out.2.2 (Below.refl _ _) (k := 1) (by rw [h3.out]; omega) hx3.out))))
          go_upto_region 12 with fail
          clear x0 x1 x2 x3 x4 x5 t0 t1 t2 t3 t4 y20 y21 y30 y31
          have q := bel_new wr (.cells #[.int .i64 x, .int .i64 y] 3)
          rw [← hJ] at oj ⊢
          replace oj := Lib.hid oj
          replace k0 := k0.after q
          replace kt := kt.after q
          replace hr := Lib.hid (hr.out.after q)
          replace hT := Lib.hid (hT.out.later q)
          replace bb := Lib.hid (bel_after bb.out q)
          replace bc := Lib.hid (bel_after bc.out q)
          replace hB := Lib.hid (hB.out.after q)
          clear q hJ
          generalize wr.alloc (.cells #[.int .i64 x, .int .i64 y] 3) = u at *
          obtain ⟨jj, hjj⟩ : ∃ jj, jj = [x, y] := ⟨_, rfl⟩
          rw [← hjj] at oj hC
          have hcl := Lib.hid (show jj.length = 2 from by rw [hjj]; rfl)
          obtain ⟨ps, hps⟩ : ∃ ps, ps = M.score l jj X Y := ⟨_, rfl⟩
          replace hps := Lib.hid hps
          replace hjj := Lib.hid hjj
          have q := bel_drew u
          replace k0 := k0.after q
          replace kt := kt.after q
          replace hr := Lib.hid (hr.out.after q)
          replace hT := Lib.hid (hT.out.later q)
          replace bb := Lib.hid (bel_after bb.out q)
          replace bc := Lib.hid (bel_after bc.out q)
          replace hB := Lib.hid (hB.out.after q)
          replace oj := Lib.hid (oj.out.after q)
          clear q
          obtain ⟨mx, hmx⟩ : ∃ mx : Int, mx = max x (-x) := ⟨_, rfl⟩
          have wmx : IntKind.i64.wrap (-x) = -x := IntWalk.i64_in _ (by omega)
          obtain ⟨my, hmy⟩ : ∃ my : Int, my = max y (-y) := ⟨_, rfl⟩
          have wmy : IntKind.i64.wrap (-y) = -y := IntWalk.i64_in _ (by omega)
          have wms : IntKind.i64.wrap (mx + my) = mx + my := IntWalk.i64_in _ (by omega)
          have hsum := Lib.hid (show mx + my = M.absS x y from by rw [hmx, hmy]; rfl)
          replace hmx := Lib.hid hmx
          replace hmy := Lib.hid hmy
          have s := (And.intro (And.intro k0.c0 (And.intro k0.c1 k0.c2)) (And.intro kt.1 kt.2.1))
          refine wp_region_held_drew (S := (fun w' => ((w'.cell? ⟨w.heap.size, 0, none⟩ = some (.slice a1 n1 c1) ∧ w'.cell? ⟨w.heap.size, 1, none⟩ = some (.slice (some ⟨b2, o2, none⟩) n2 c2) ∧ w'.cell? ⟨w.heap.size, 2, none⟩ = some (.slice (some ⟨b3, o3, none⟩) n3 c3)) ∧ (w'.cell? ⟨w.heap.size + 1, 0, none⟩ = some (.int .i64 X) ∧ w'.cell? ⟨w.heap.size + 1, 1, none⟩ = some (.int .i64 Y))))) (by kernel_rfl) s (fun hHeld => ?_)
          generalize u.drew = u0 at *
          have k0u := k0
          have ktu := kt
          have hru := hr
          have hTu := hT
          have bbu := bb
          have bcu := bc
          have hBu := hB
          have oju := oj
          have bz := Lib.hid (Below.refl u0.heap.size u0)
          refine wpAnyH_take (i := 0) (v := ?vq6x0) nth0 (by kernel_rfl) (by kernel_rfl) (by kernel_rfl) (fun _ _ _ h => h) (Or.inl ⟨by rfl, ?hyq6x0⟩) hHeld ?_
          case hyq6x0 => (intro wH hSw; (try dsimp only at hSw); go_simp; (try with_reducible rfl))
          simp only [Act.put, List.setIfInBounds_toArray, List.set_cons_zero, List.set_cons_succ]
          refine wpAnyH_take (i := 1) (v := ?vq6x1) nth1 (by kernel_rfl) (by kernel_rfl) (by kernel_rfl) (fun _ _ _ h => h) (Or.inl ⟨by rfl, ?hyq6x1⟩) hHeld ?_
          case hyq6x1 => (intro wH hSw; (try dsimp only at hSw); go_simp; (try with_reducible rfl))
          simp only [Act.put, List.setIfInBounds_toArray, List.set_cons_zero, List.set_cons_succ]
          refine wpAnyH_take (i := 3) (v := ?vq6x3) nth3 (by kernel_rfl) (by kernel_rfl) (by kernel_rfl) (fun _ _ _ h => h) (Or.inl ⟨by rfl, ?hyq6x3⟩) hHeld ?_
          case hyq6x3 => (intro wH hSw; (try dsimp only at hSw); go_simp; (try with_reducible rfl))
          simp only [Act.put, List.setIfInBounds_toArray, List.set_cons_zero, List.set_cons_succ]
          refine wpAnyH_take (i := 5) (v := ?vq6x5) nth5 (by kernel_rfl) (by kernel_rfl) (by kernel_rfl) (fun _ _ _ h => h) (Or.inl ⟨by rfl, ?hyq6x5⟩) hHeld ?_
          case hyq6x5 => (intro wH hSw; (try dsimp only at hSw); go_simp; (try with_reducible rfl))
          simp only [Act.put, List.setIfInBounds_toArray, List.set_cons_zero, List.set_cons_succ]
          refine wpAnyH_take (i := 6) (v := ?vq6x6) nth6 (by kernel_rfl) (by kernel_rfl) (by kernel_rfl) (fun _ _ _ h => h) (Or.inl ⟨by rfl, ?hyq6x6⟩) hHeld ?_
          case hyq6x6 => (intro wH hSw; (try dsimp only at hSw); go_simp; (try with_reducible rfl))
          simp only [Act.put, List.setIfInBounds_toArray, List.set_cons_zero, List.set_cons_succ]
          refine wpAnyH_take (i := 7) (v := ?vq6x7) nth7 (by kernel_rfl) (by kernel_rfl) (by kernel_rfl) (fun _ _ _ h => h) (Or.inl ⟨by rfl, ?hyq6x7⟩) hHeld ?_
          case hyq6x7 => (intro wH hSw; (try dsimp only at hSw); go_simp; (try with_reducible rfl))
          simp only [Act.put, List.setIfInBounds_toArray, List.set_cons_zero, List.set_cons_succ]
          refine wpAnyH_take (i := 8) (v := .int .i64 mx) nth8 (by kernel_rfl) (by kernel_rfl) (by kernel_rfl) (fun _ _ _ h => h) (Or.inl ⟨by rfl, ?hyq6x8⟩) hHeld ?_
          case hyq6x8 => (intro wH hSw; (try dsimp only at hSw); go_simp; (rw [hmx.out]; omega))
          simp only [Act.put, List.setIfInBounds_toArray, List.set_cons_zero, List.set_cons_succ]
          refine wpAnyH_take (i := 9) (v := ?vq6x9) nth9 (by kernel_rfl) (by kernel_rfl) (by kernel_rfl) (fun _ _ _ h => h) (Or.inl ⟨by rfl, ?hyq6x9⟩) hHeld ?_
          case hyq6x9 => (intro wH hSw; (try dsimp only at hSw); go_simp; (try with_reducible rfl))
          simp only [Act.put, List.setIfInBounds_toArray, List.set_cons_zero, List.set_cons_succ]
          refine wpAnyH_take (i := 10) (v := ?vq6x10) nth10 (by kernel_rfl) (by kernel_rfl) (by kernel_rfl) (fun _ _ _ h => h) (Or.inl ⟨by rfl, ?hyq6x10⟩) hHeld ?_
          case hyq6x10 => (intro wH hSw; (try dsimp only at hSw); go_simp; (try with_reducible rfl))
          simp only [Act.put, List.setIfInBounds_toArray, List.set_cons_zero, List.set_cons_succ]
          refine wpAnyH_take (i := 11) (v := ?vq6x11) nth11 (by kernel_rfl) (by kernel_rfl) (by kernel_rfl) (fun _ _ _ h => h) (Or.inl ⟨by rfl, ?hyq6x11⟩) hHeld ?_
          case hyq6x11 => (intro wH hSw; (try dsimp only at hSw); go_simp; (try with_reducible rfl))
          simp only [Act.put, List.setIfInBounds_toArray, List.set_cons_zero, List.set_cons_succ]
          refine wpAnyH_take (i := 12) (v := .int .i64 my) nth12 (by kernel_rfl) (by kernel_rfl) (by kernel_rfl) (fun _ _ _ h => h) (Or.inl ⟨by rfl, ?hyq6x12⟩) hHeld ?_
          case hyq6x12 => (intro wH hSw; (try dsimp only at hSw); go_simp; (rw [hmy.out]; omega))
          simp only [Act.put, List.setIfInBounds_toArray, List.set_cons_zero, List.set_cons_succ]
          refine wpAnyH_take (i := 13) (v := ?vq6x13) nth13 (by kernel_rfl) (by kernel_rfl) (by kernel_rfl) (fun _ _ _ h => h) (Or.inl ⟨by rfl, ?hyq6x13⟩) hHeld ?_
          case hyq6x13 => (intro wH hSw; (try dsimp only at hSw); go_simp; (try with_reducible rfl))
          simp only [Act.put, List.setIfInBounds_toArray, List.set_cons_zero, List.set_cons_succ]
          refine wpAnyH_ready (rs := [2, 15]) (by kernel_rfl) (by simp) ?_
          refine AllReadyH.cons nth2 (fun K hK => ?_) ?_
          · go_simp
            go_at_call 39
            refine (impl_tipV a1 (some ⟨b2, o2, none⟩) (some ⟨b3, o3, none⟩) (some ⟨J, 0, none⟩) n1 c1 n2 c2 n3 c3 2 2 l lo hi jj _ hT.out h1.out hcl.out hC.out hr.out oj.out.row).mono ?_
            rintro e wt1 ⟨rfl, q⟩
            replace bz := Lib.hid (bel_after bz.out q)
            replace k0 := k0u.after bz.out
            replace kt := ktu.after bz.out
            replace hr := Lib.hid (hru.out.after bz.out)
            replace hT := Lib.hid (hTu.out.later bz.out)
            replace bb := Lib.hid (bel_after bbu.out bz.out)
            replace bc := Lib.hid (bel_after bcu.out bz.out)
            replace hB := Lib.hid (hBu.out.after bz.out)
            replace oj := Lib.hid (oju.out.after bz.out)
            clear q s
            clear hHeld
            have s := (And.intro (And.intro k0.c0 (And.intro k0.c1 k0.c2)) (And.intro kt.1 kt.2.1))
            refine hK.out _ _ s (fun hHeld => ?_)
            clear hK K
            try simp only [Act.put, List.setIfInBounds_toArray, List.set_cons_zero, List.set_cons_succ]
            refine wpAnyH_ready (rs := [4, 15]) (by kernel_rfl) (by simp) ?_
            refine AllReadyH.cons nth4 (fun K hK => ?_) ?_
            · go_simp
              go_at_call 38
              refine (impl_score l lo hi jj 2 X Y _ hcl.out hC.out hP.out).mono ?_
              rintro e wt2 ⟨rfl, q⟩
              rw [← hps.out]
              replace bz := Lib.hid (bel_after bz.out q)
              replace k0 := k0u.after bz.out
              replace kt := ktu.after bz.out
              replace hr := Lib.hid (hru.out.after bz.out)
              replace hT := Lib.hid (hTu.out.later bz.out)
              replace bb := Lib.hid (bel_after bbu.out bz.out)
              replace bc := Lib.hid (bel_after bcu.out bz.out)
              replace hB := Lib.hid (hBu.out.after bz.out)
              replace oj := Lib.hid (oju.out.after bz.out)
              clear q s
              clear hHeld
              have s := (And.intro (And.intro k0.c0 (And.intro k0.c1 k0.c2)) (And.intro kt.1 kt.2.1))
              refine hK.out _ _ s (fun hHeld => ?_)
              clear hK K
              try simp only [Act.put, List.setIfInBounds_toArray, List.set_cons_zero, List.set_cons_succ]
              refine wpAnyH_take (i := 14) (v := ?vq6x14) nth14 (by kernel_rfl) (by kernel_rfl) (by kernel_rfl) (fun _ _ _ h => h) (Or.inl ⟨by rfl, ?hyq6x14⟩) hHeld ?_
              case hyq6x14 => (intro wH hSw; (try dsimp only at hSw); go_simp; (try with_reducible rfl))
              simp only [Act.put, List.setIfInBounds_toArray, List.set_cons_zero, List.set_cons_succ]
              refine wpAnyH_ready (rs := [15]) (by kernel_rfl) (by simp) ?_
              refine AllReadyH.cons nth15 (fun K hK => ?_) ?_
              · go_simp
                have q := bel_new wt2 (.cells #[.int .i64 0, .int .i64 0] 63)
                have kR := Slot.new wt2 0 0 63
                obtain ⟨R, hRe⟩ : ∃ R, R = (wt2).heap.size := ⟨_, rfl⟩
                rw [← hRe] at kR ⊢
                have hR : u0.heap.size ≤ R := by rw [hRe]; exact bz.out.size
                clear hRe
                replace bz := Lib.hid (bel_after bz.out q)
                replace k0 := k0u.after bz.out
                replace kt := ktu.after bz.out
                replace hr := Lib.hid (hru.out.after bz.out)
                replace hT := Lib.hid (hTu.out.later bz.out)
                replace bb := Lib.hid (bel_after bbu.out bz.out)
                replace bc := Lib.hid (bel_after bcu.out bz.out)
                replace hB := Lib.hid (hBu.out.after bz.out)
                replace oj := Lib.hid (oju.out.after bz.out)
                clear q s
                obtain ⟨wt3, hw3⟩ : ∃ u_ : World, u_ = (wt2).alloc (.cells #[.int .i64 0, .int .i64 0] 63) := ⟨_, rfl⟩
                rw [← hw3] at k0 kt hr hT bb bc hB oj kR bz ⊢
                clear hw3
                clear hHeld
                have s := (And.intro (And.intro k0.c0 (And.intro k0.c1 k0.c2)) (And.intro kt.1 kt.2.1))
                refine hK.out _ _ s (fun hHeld => ?_)
                clear hK K
                try simp only [Act.put, List.setIfInBounds_toArray, List.set_cons_zero, List.set_cons_succ]
                refine wpAnyH_ready (rs := [16]) (by kernel_rfl) (by simp) ?_
                refine AllReadyH.cons nth16 (fun K hK => ?_) ?_
                · obtain ⟨r0, r1, r2, r3, r4⟩ := id kR
                  go_simp
                  clear r0 r1 r2 r3 r4 s
                  have hg := grown_set2 wt3 R (.int .i64 ps) (.int .i64 (mx + my))
                  replace bz := Lib.hid (bel_grown bz.out hg hR)
                  replace kR := kR.put2 ps (mx + my)
                  replace k0 := k0u.after bz.out
                  replace kt := ktu.after bz.out
                  replace hr := Lib.hid (hru.out.after bz.out)
                  replace hT := Lib.hid (hTu.out.later bz.out)
                  replace bb := Lib.hid (bel_after bbu.out bz.out)
                  replace bc := Lib.hid (bel_after bcu.out bz.out)
                  replace hB := Lib.hid (hBu.out.after bz.out)
                  replace oj := Lib.hid (oju.out.after bz.out)
                  clear hg
                  generalize (wt3.setCell ⟨R, 0, none⟩ (.int .i64 ps)).setCell ⟨R, 1, none⟩ (.int .i64 (mx + my)) = wt4 at *
                  clear hHeld
                  have s := (And.intro (And.intro k0.c0 (And.intro k0.c1 k0.c2)) (And.intro kt.1 kt.2.1))
                  refine hK.out _ _ s (fun hHeld => ?_)
                  clear hK K
                  try simp only [Act.put, List.setIfInBounds_toArray, List.set_cons_zero, List.set_cons_succ]
                  refine wpAnyH_done (by kernel_rfl) ?_ _
                  obtain ⟨uz, rfl⟩ : ∃ u_ : World, u_ = wt4 := ⟨_, rfl⟩
                  clear s hHeld k0u ktu hru hTu bbu bcu hBu oju bz hR
                  go_upto_region 13 with fail
                  obtain ⟨p, qq, kL, hcase⟩ := hB.out
                  rcases hcase with ⟨hbe, rfl⟩ | ⟨uu, vv, ad, cap, hbe, rfl, mb, hp, hq⟩
                  · have hnew := Lib.hid (show jj = M.slvY l X Y a1_ x b0 (i + 1) from by rw [hst2.out, hbe, M.slv_nil, hjj.out])
                    clear hbe
                    have q22 : ∀ (w : World) (a : Option Addr) (n c n' c' : Nat), (binOp .eql 23 (.slice a n c) (.slice none n' c')).run Tryd.prog w = .ok (.bool a.isNone) w := fun w a n c n' c' => Lib.run_eql_slice_nil w _ _ a n c n' c' Tryd.underlying23
                    have q := bel_drew uz
                    replace k0 := k0.after q
                    replace kt := kt.after q
                    replace hr := Lib.hid (hr.out.after q)
                    replace hT := Lib.hid (hT.out.later q)
                    replace bb := Lib.hid (bel_after bb.out q)
                    replace bc := Lib.hid (bel_after bc.out q)
                    replace hB := Lib.hid (hB.out.after q)
                    replace oj := Lib.hid (oj.out.after q)
                    replace kR := kR.after q
                    replace kL := kL.after q
                    clear q
                    have s : True := True.intro
                    refine wp_region_held_drew (S := (fun _ => True)) (by kernel_rfl) s (fun hHeld => ?_)
                    generalize uz.drew = ua at *
                    refine wpAnyH_take (i := 0) (v := ?vq7x0) nth0 (by kernel_rfl) (by kernel_rfl) (by kernel_rfl) (fun _ _ _ h => h) (Or.inl ⟨by rfl, ?hyq7x0⟩) hHeld ?_
                    case hyq7x0 => (intro wH hSw; (try dsimp only at hSw); go_simp; (try with_reducible rfl))
                    simp only [Act.put, List.setIfInBounds_toArray, List.set_cons_zero, List.set_cons_succ]
                    refine wpAnyH_take (i := 1) (v := ?vq7x1) nth1 (by kernel_rfl) (by kernel_rfl) (by kernel_rfl) (fun _ _ _ h => h) (Or.inl ⟨by rfl, ?hyq7x1⟩) hHeld ?_
                    case hyq7x1 => (intro wH hSw; (try dsimp only at hSw); go_simp; (try with_reducible rfl))
                    simp only [Act.put, List.setIfInBounds_toArray, List.set_cons_zero, List.set_cons_succ]
                    refine wpAnyH_take (i := 2) (v := ?vq7x2) nth2 (by kernel_rfl) (by kernel_rfl) (by kernel_rfl) (fun _ _ _ h => h) (Or.inl ⟨by rfl, ?hyq7x2⟩) hHeld ?_
                    case hyq7x2 => (intro wH hSw; (try dsimp only at hSw); go_simp; (try with_reducible rfl))
                    simp only [Act.put, List.setIfInBounds_toArray, List.set_cons_zero, List.set_cons_succ]
                    refine wpAnyH_take (i := 3) (v := undef) nth3 (by kernel_rfl) (by kernel_rfl) (by kernel_rfl) (fun _ _ _ h => h) (Or.inr ⟨by rfl, rfl⟩) hHeld ?_
                    simp only [Act.put, List.setIfInBounds_toArray, List.set_cons_zero, List.set_cons_succ]
                    refine wpAnyH_take (i := 4) (v := undef) nth4 (by kernel_rfl) (by kernel_rfl) (by kernel_rfl) (fun _ _ _ h => h) (Or.inr ⟨by rfl, rfl⟩) hHeld ?_
                    simp only [Act.put, List.setIfInBounds_toArray, List.set_cons_zero, List.set_cons_succ]
                    refine wpAnyH_take (i := 5) (v := undef) nth5 (by kernel_rfl) (by kernel_rfl) (by kernel_rfl) (fun _ _ _ h => h) (Or.inr ⟨by rfl, rfl⟩) hHeld ?_
                    simp only [Act.put, List.setIfInBounds_toArray, List.set_cons_zero, List.set_cons_succ]
                    refine wpAnyH_take (i := 6) (v := undef) nth6 (by kernel_rfl) (by kernel_rfl) (by kernel_rfl) (fun _ _ _ h => h) (Or.inr ⟨by rfl, rfl⟩) hHeld ?_
                    simp only [Act.put, List.setIfInBounds_toArray, List.set_cons_zero, List.set_cons_succ]
                    refine wpAnyH_take (i := 7) (v := ?vq7x7) nth7 (by kernel_rfl) (by kernel_rfl) (by kernel_rfl) (fun _ _ _ h => h) (Or.inl ⟨by rfl, ?hyq7x7⟩) hHeld ?_
                    case hyq7x7 => (intro wH hSw; (try dsimp only at hSw); go_simp; (try with_reducible rfl))
                    simp only [Act.put, List.setIfInBounds_toArray, List.set_cons_zero, List.set_cons_succ]
                    refine wpAnyH_done (by kernel_rfl) ?_ _
                    clear hHeld s q22
                    obtain ⟨r0, r1, r2, r3, r4⟩ := id kR
                    obtain ⟨l0, l1, l2, l3, l4⟩ := id kL
                    go_upto_region 14 with fail
                    go_region
                    go_wp2_with fail
                    clear r0 r1 r2 r3 r4 l0 l1 l2 l3 l4
                    have hg := grown_set2 ua Lb (.int .i64 ps) (.int .i64 (mx + my))
                    have hBn := best_new (kL.put2 ps (mx + my)) (oj.out.grown hg (Or.inr (by simp [Value.ownBlock]; omega))) hjj.out (by rw [hps.out, hjj.out]) hsum.out
                    rw [hnew.out] at hBn
                    have bcn := bel_grown bc.out hg (by rw [hLb.out]; exact Nat.le_refl _)
                    go_roundw
                    case rel => exact ⟨i + 1, by simp; omega, by omega, Lib.hid (hBn.after (bel_drew _)), Lib.hid (bel_after bcn (bel_drew _))⟩
                    case measure => simp [intOf]; omega
                  · have hrk : (ps < p ∨ (ps = p ∧ mx + my < qq)) ↔ M.Better l X Y x y uu vv := by unfold M.Better; rw [hps.out, hjj.out, hsum.out, hp, hq]
                    rw [← M.cmp2_lt] at hrk
                    clear hp hq mb
                    by_cases hbt : M.Better l X Y x y uu vv
                    · have hnew := Lib.hid (show jj = M.slvY l X Y a1_ x b0 (i + 1) from by rw [hst2.out, hbe, M.slv_yes hbt, hjj.out])
                      have hd : decide (M.cmp2 ps (mx + my) p qq < 0) = true := by simp; exact hrk.2 hbt
                      clear hbe hbt hrk
                      have q22 : ∀ (w : World) (a : Option Addr) (n c n' c' : Nat), (binOp .eql 23 (.slice a n c) (.slice none n' c')).run Tryd.prog w = .ok (.bool a.isNone) w := fun w a n c n' c' => Lib.run_eql_slice_nil w _ _ a n c n' c' Tryd.underlying23
                      have q := bel_drew uz
                      replace k0 := k0.after q
                      replace kt := kt.after q
                      replace hr := Lib.hid (hr.out.after q)
                      replace hT := Lib.hid (hT.out.later q)
                      replace bb := Lib.hid (bel_after bb.out q)
                      replace bc := Lib.hid (bel_after bc.out q)
                      replace hB := Lib.hid (hB.out.after q)
                      replace oj := Lib.hid (oj.out.after q)
                      replace kR := kR.after q
                      replace kL := kL.after q
                      clear q
                      have s : True := True.intro
                      refine wp_region_held_drew (S := (fun _ => True)) (by kernel_rfl) s (fun hHeld => ?_)
                      generalize uz.drew = ua at *
                      refine wpAnyH_take (i := 0) (v := ?vq8x0) nth0 (by kernel_rfl) (by kernel_rfl) (by kernel_rfl) (fun _ _ _ h => h) (Or.inl ⟨by rfl, ?hyq8x0⟩) hHeld ?_
                      case hyq8x0 => (intro wH hSw; (try dsimp only at hSw); go_simp; (try with_reducible rfl))
                      simp only [Act.put, List.setIfInBounds_toArray, List.set_cons_zero, List.set_cons_succ]
                      refine wpAnyH_take (i := 1) (v := ?vq8x1) nth1 (by kernel_rfl) (by kernel_rfl) (by kernel_rfl) (fun _ _ _ h => h) (Or.inl ⟨by rfl, ?hyq8x1⟩) hHeld ?_
                      case hyq8x1 => (intro wH hSw; (try dsimp only at hSw); go_simp; (try with_reducible rfl))
                      simp only [Act.put, List.setIfInBounds_toArray, List.set_cons_zero, List.set_cons_succ]
                      refine wpAnyH_take (i := 2) (v := ?vq8x2) nth2 (by kernel_rfl) (by kernel_rfl) (by kernel_rfl) (fun _ _ _ h => h) (Or.inl ⟨by rfl, ?hyq8x2⟩) hHeld ?_
                      case hyq8x2 => (intro wH hSw; (try dsimp only at hSw); go_simp; (try with_reducible rfl))
                      simp only [Act.put, List.setIfInBounds_toArray, List.set_cons_zero, List.set_cons_succ]
                      refine wpAnyH_take (i := 3) (v := ?vq8x3) nth3 (by kernel_rfl) (by kernel_rfl) (by kernel_rfl) (fun _ _ _ h => h) (Or.inl ⟨by rfl, ?hyq8x3⟩) hHeld ?_
                      case hyq8x3 => (intro wH hSw; (try dsimp only at hSw); go_simp; (try with_reducible rfl))
                      simp only [Act.put, List.setIfInBounds_toArray, List.set_cons_zero, List.set_cons_succ]
                      refine wpAnyH_take (i := 4) (v := ?vq8x4) nth4 (by kernel_rfl) (by kernel_rfl) (by kernel_rfl) (fun _ _ _ h => h) (Or.inl ⟨by rfl, ?hyq8x4⟩) hHeld ?_
                      case hyq8x4 => (intro wH hSw; (try dsimp only at hSw); go_simp; (try with_reducible rfl))
                      simp only [Act.put, List.setIfInBounds_toArray, List.set_cons_zero, List.set_cons_succ]
                      refine wpAnyH_ready (rs := [5]) (by kernel_rfl) (by simp) ?_
                      refine AllReadyH.cons nth5 (fun K hK => ?_) ?_
                      · go_simp
                        go_at_call 40
                        refine (slices_cmp2 R Lb ps (mx + my) p qq _ kR kL).mono ?_
                        rintro e wc ⟨rfl, rfl⟩
                        clear s
                        clear hHeld
                        have s : True := True.intro
                        refine hK.out _ _ s (fun hHeld => ?_)
                        clear hK K
                        try simp only [Act.put, List.setIfInBounds_toArray, List.set_cons_zero, List.set_cons_succ]
                        refine wpAnyH_take (i := 6) (v := ?vq8x6) nth6 (by kernel_rfl) (by kernel_rfl) (by kernel_rfl) (fun _ _ _ h => h) (Or.inl ⟨by rfl, ?hyq8x6⟩) hHeld ?_
                        case hyq8x6 => (intro wH hSw; (try dsimp only at hSw); go_simp; (try with_reducible rfl))
                        simp only [Act.put, List.setIfInBounds_toArray, List.set_cons_zero, List.set_cons_succ]
                        refine wpAnyH_take (i := 7) (v := ?vq8x7) nth7 (by kernel_rfl) (by kernel_rfl) (by kernel_rfl) (fun _ _ _ h => h) (Or.inl ⟨by rfl, ?hyq8x7⟩) hHeld ?_
                        case hyq8x7 => (intro wH hSw; (try dsimp only at hSw); go_simp; (try with_reducible rfl))
                        simp only [Act.put, List.setIfInBounds_toArray, List.set_cons_zero, List.set_cons_succ]
                        refine wpAnyH_done (by kernel_rfl) ?_ _
                        clear hHeld s q22
                        clear hd
                        obtain ⟨r0, r1, r2, r3, r4⟩ := id kR
                        obtain ⟨l0, l1, l2, l3, l4⟩ := id kL
                        go_upto_region 14 with fail
                        go_region
                        go_wp2_with fail
                        clear r0 r1 r2 r3 r4 l0 l1 l2 l3 l4
                        have hg := grown_set2 ua Lb (.int .i64 ps) (.int .i64 (mx + my))
                        have hBn := best_new (kL.put2 ps (mx + my)) (oj.out.grown hg (Or.inr (by simp [Value.ownBlock]; omega))) hjj.out (by rw [hps.out, hjj.out]) hsum.out
                        rw [hnew.out] at hBn
                        have bcn := bel_grown bc.out hg (by rw [hLb.out]; exact Nat.le_refl _)
                        go_roundw
                        case rel => exact ⟨i + 1, by simp; omega, by omega, Lib.hid (hBn.after (bel_drew _)), Lib.hid (bel_after bcn (bel_drew _))⟩
                        case measure => simp [intOf]; omega
                      exact AllReadyH.nil
                    · have hnew := Lib.hid (show b1 = M.slvY l X Y a1_ x b0 (i + 1) from by rw [hst2.out, hbe, M.slv_no hbt])
                      have hd : decide (M.cmp2 ps (mx + my) p qq < 0) = false := by rw [decide_eq_false_iff_not]; exact fun h => hbt (hrk.1 h)
                      clear hbe hbt hrk
                      have q22 : ∀ (w : World) (a : Option Addr) (n c n' c' : Nat), (binOp .eql 23 (.slice a n c) (.slice none n' c')).run Tryd.prog w = .ok (.bool a.isNone) w := fun w a n c n' c' => Lib.run_eql_slice_nil w _ _ a n c n' c' Tryd.underlying23
                      have q := bel_drew uz
                      replace k0 := k0.after q
                      replace kt := kt.after q
                      replace hr := Lib.hid (hr.out.after q)
                      replace hT := Lib.hid (hT.out.later q)
                      replace bb := Lib.hid (bel_after bb.out q)
                      replace bc := Lib.hid (bel_after bc.out q)
                      replace hB := Lib.hid (hB.out.after q)
                      replace oj := Lib.hid (oj.out.after q)
                      replace kR := kR.after q
                      replace kL := kL.after q
                      clear q
                      have s : True := True.intro
                      refine wp_region_held_drew (S := (fun _ => True)) (by kernel_rfl) s (fun hHeld => ?_)
                      generalize uz.drew = ua at *
                      refine wpAnyH_take (i := 0) (v := ?vq9x0) nth0 (by kernel_rfl) (by kernel_rfl) (by kernel_rfl) (fun _ _ _ h => h) (Or.inl ⟨by rfl, ?hyq9x0⟩) hHeld ?_
                      case hyq9x0 => (intro wH hSw; (try dsimp only at hSw); go_simp; (try with_reducible rfl))
                      simp only [Act.put, List.setIfInBounds_toArray, List.set_cons_zero, List.set_cons_succ]
                      refine wpAnyH_take (i := 1) (v := ?vq9x1) nth1 (by kernel_rfl) (by kernel_rfl) (by kernel_rfl) (fun _ _ _ h => h) (Or.inl ⟨by rfl, ?hyq9x1⟩) hHeld ?_
                      case hyq9x1 => (intro wH hSw; (try dsimp only at hSw); go_simp; (try with_reducible rfl))
                      simp only [Act.put, List.setIfInBounds_toArray, List.set_cons_zero, List.set_cons_succ]
                      refine wpAnyH_take (i := 2) (v := ?vq9x2) nth2 (by kernel_rfl) (by kernel_rfl) (by kernel_rfl) (fun _ _ _ h => h) (Or.inl ⟨by rfl, ?hyq9x2⟩) hHeld ?_
                      case hyq9x2 => (intro wH hSw; (try dsimp only at hSw); go_simp; (try with_reducible rfl))
                      simp only [Act.put, List.setIfInBounds_toArray, List.set_cons_zero, List.set_cons_succ]
                      refine wpAnyH_take (i := 3) (v := ?vq9x3) nth3 (by kernel_rfl) (by kernel_rfl) (by kernel_rfl) (fun _ _ _ h => h) (Or.inl ⟨by rfl, ?hyq9x3⟩) hHeld ?_
                      case hyq9x3 => (intro wH hSw; (try dsimp only at hSw); go_simp; (try with_reducible rfl))
                      simp only [Act.put, List.setIfInBounds_toArray, List.set_cons_zero, List.set_cons_succ]
                      refine wpAnyH_take (i := 4) (v := ?vq9x4) nth4 (by kernel_rfl) (by kernel_rfl) (by kernel_rfl) (fun _ _ _ h => h) (Or.inl ⟨by rfl, ?hyq9x4⟩) hHeld ?_
                      case hyq9x4 => (intro wH hSw; (try dsimp only at hSw); go_simp; (try with_reducible rfl))
                      simp only [Act.put, List.setIfInBounds_toArray, List.set_cons_zero, List.set_cons_succ]
                      refine wpAnyH_ready (rs := [5]) (by kernel_rfl) (by simp) ?_
                      refine AllReadyH.cons nth5 (fun K hK => ?_) ?_
                      · go_simp
                        go_at_call 40
                        refine (slices_cmp2 R Lb ps (mx + my) p qq _ kR kL).mono ?_
                        rintro e wc ⟨rfl, rfl⟩
                        clear s
                        clear hHeld
                        have s : True := True.intro
                        refine hK.out _ _ s (fun hHeld => ?_)
                        clear hK K
                        try simp only [Act.put, List.setIfInBounds_toArray, List.set_cons_zero, List.set_cons_succ]
                        refine wpAnyH_take (i := 6) (v := ?vq9x6) nth6 (by kernel_rfl) (by kernel_rfl) (by kernel_rfl) (fun _ _ _ h => h) (Or.inl ⟨by rfl, ?hyq9x6⟩) hHeld ?_
                        case hyq9x6 => (intro wH hSw; (try dsimp only at hSw); go_simp; (try with_reducible rfl))
                        simp only [Act.put, List.setIfInBounds_toArray, List.set_cons_zero, List.set_cons_succ]
                        refine wpAnyH_take (i := 7) (v := ?vq9x7) nth7 (by kernel_rfl) (by kernel_rfl) (by kernel_rfl) (fun _ _ _ h => h) (Or.inl ⟨by rfl, ?hyq9x7⟩) hHeld ?_
                        case hyq9x7 => (intro wH hSw; (try dsimp only at hSw); go_simp; (try with_reducible rfl))
                        simp only [Act.put, List.setIfInBounds_toArray, List.set_cons_zero, List.set_cons_succ]
                        refine wpAnyH_done (by kernel_rfl) ?_ _
                        clear hHeld s q22
                        clear hd
                        go_wp2_with fail
                        replace hB := hB.out
                        rw [hnew.out] at hB
                        go_roundw
                        case rel => exact ⟨i + 1, by simp; omega, by omega, hB, bc⟩
                        case measure => simp [intOf]; omega
                      exact AllReadyH.nil
                exact AllReadyH.nil
              exact AllReadyH.nil
            refine AllReadyH.cons nth15 (fun K hK => ?_) ?_
            · go_simp
              have q := bel_new wt1 (.cells #[.int .i64 0, .int .i64 0] 63)
              have kR := Slot.new wt1 0 0 63
              obtain ⟨R, hRe⟩ : ∃ R, R = (wt1).heap.size := ⟨_, rfl⟩
              rw [← hRe] at kR ⊢
              have hR : u0.heap.size ≤ R := by rw [hRe]; exact bz.out.size
              clear hRe
              replace bz := Lib.hid (bel_after bz.out q)
              replace k0 := k0u.after bz.out
              replace kt := ktu.after bz.out
              replace hr := Lib.hid (hru.out.after bz.out)
              replace hT := Lib.hid (hTu.out.later bz.out)
              replace bb := Lib.hid (bel_after bbu.out bz.out)
              replace bc := Lib.hid (bel_after bcu.out bz.out)
              replace hB := Lib.hid (hBu.out.after bz.out)
              replace oj := Lib.hid (oju.out.after bz.out)
              clear q s
              obtain ⟨wt2, hw2⟩ : ∃ u_ : World, u_ = (wt1).alloc (.cells #[.int .i64 0, .int .i64 0] 63) := ⟨_, rfl⟩
              rw [← hw2] at k0 kt hr hT bb bc hB oj kR bz ⊢
              clear hw2
              clear hHeld
              have s := (And.intro (And.intro k0.c0 (And.intro k0.c1 k0.c2)) (And.intro kt.1 kt.2.1))
              refine hK.out _ _ s (fun hHeld => ?_)
              clear hK K
              try simp only [Act.put, List.setIfInBounds_toArray, List.set_cons_zero, List.set_cons_succ]
              refine wpAnyH_ready (rs := [4]) (by kernel_rfl) (by simp) ?_
              refine AllReadyH.cons nth4 (fun K hK => ?_) ?_
              · go_simp
                go_at_call 38
                refine (impl_score l lo hi jj 2 X Y _ hcl.out hC.out hP.out).mono ?_
                rintro e wt3 ⟨rfl, q⟩
                rw [← hps.out]
                replace bz := Lib.hid (bel_after bz.out q)
                replace k0 := k0u.after bz.out
                replace kt := ktu.after bz.out
                replace hr := Lib.hid (hru.out.after bz.out)
                replace hT := Lib.hid (hTu.out.later bz.out)
                replace bb := Lib.hid (bel_after bbu.out bz.out)
                replace bc := Lib.hid (bel_after bcu.out bz.out)
                replace hB := Lib.hid (hBu.out.after bz.out)
                replace oj := Lib.hid (oju.out.after bz.out)
                replace kR := kR.after q
                clear q s
                clear hHeld
                have s := (And.intro (And.intro k0.c0 (And.intro k0.c1 k0.c2)) (And.intro kt.1 kt.2.1))
                refine hK.out _ _ s (fun hHeld => ?_)
                clear hK K
                try simp only [Act.put, List.setIfInBounds_toArray, List.set_cons_zero, List.set_cons_succ]
                refine wpAnyH_take (i := 14) (v := ?vq6x14) nth14 (by kernel_rfl) (by kernel_rfl) (by kernel_rfl) (fun _ _ _ h => h) (Or.inl ⟨by rfl, ?hyq6x14⟩) hHeld ?_
                case hyq6x14 => (intro wH hSw; (try dsimp only at hSw); go_simp; (try with_reducible rfl))
                simp only [Act.put, List.setIfInBounds_toArray, List.set_cons_zero, List.set_cons_succ]
                refine wpAnyH_ready (rs := [16]) (by kernel_rfl) (by simp) ?_
                refine AllReadyH.cons nth16 (fun K hK => ?_) ?_
                · obtain ⟨r0, r1, r2, r3, r4⟩ := id kR
                  go_simp
                  clear r0 r1 r2 r3 r4 s
                  have hg := grown_set2 wt3 R (.int .i64 ps) (.int .i64 (mx + my))
                  replace bz := Lib.hid (bel_grown bz.out hg hR)
                  replace kR := kR.put2 ps (mx + my)
                  replace k0 := k0u.after bz.out
                  replace kt := ktu.after bz.out
                  replace hr := Lib.hid (hru.out.after bz.out)
                  replace hT := Lib.hid (hTu.out.later bz.out)
                  replace bb := Lib.hid (bel_after bbu.out bz.out)
                  replace bc := Lib.hid (bel_after bcu.out bz.out)
                  replace hB := Lib.hid (hBu.out.after bz.out)
                  replace oj := Lib.hid (oju.out.after bz.out)
                  clear hg
                  generalize (wt3.setCell ⟨R, 0, none⟩ (.int .i64 ps)).setCell ⟨R, 1, none⟩ (.int .i64 (mx + my)) = wt4 at *
                  clear hHeld
                  have s := (And.intro (And.intro k0.c0 (And.intro k0.c1 k0.c2)) (And.intro kt.1 kt.2.1))
                  refine hK.out _ _ s (fun hHeld => ?_)
                  clear hK K
                  try simp only [Act.put, List.setIfInBounds_toArray, List.set_cons_zero, List.set_cons_succ]
                  refine wpAnyH_done (by kernel_rfl) ?_ _
                  obtain ⟨uz, rfl⟩ : ∃ u_ : World, u_ = wt4 := ⟨_, rfl⟩
                  clear s hHeld k0u ktu hru hTu bbu bcu hBu oju bz hR
                  go_upto_region 13 with fail
                  obtain ⟨p, qq, kL, hcase⟩ := hB.out
                  rcases hcase with ⟨hbe, rfl⟩ | ⟨uu, vv, ad, cap, hbe, rfl, mb, hp, hq⟩
                  · have hnew := Lib.hid (show jj = M.slvY l X Y a1_ x b0 (i + 1) from by rw [hst2.out, hbe, M.slv_nil, hjj.out])
                    clear hbe
                    have q22 : ∀ (w : World) (a : Option Addr) (n c n' c' : Nat), (binOp .eql 23 (.slice a n c) (.slice none n' c')).run Tryd.prog w = .ok (.bool a.isNone) w := fun w a n c n' c' => Lib.run_eql_slice_nil w _ _ a n c n' c' Tryd.underlying23
                    have q := bel_drew uz
                    replace k0 := k0.after q
                    replace kt := kt.after q
                    replace hr := Lib.hid (hr.out.after q)
                    replace hT := Lib.hid (hT.out.later q)
                    replace bb := Lib.hid (bel_after bb.out q)
                    replace bc := Lib.hid (bel_after bc.out q)
                    replace hB := Lib.hid (hB.out.after q)
                    replace oj := Lib.hid (oj.out.after q)
                    replace kR := kR.after q
                    replace kL := kL.after q
                    clear q
                    have s : True := True.intro
                    refine wp_region_held_drew (S := (fun _ => True)) (by kernel_rfl) s (fun hHeld => ?_)
                    generalize uz.drew = ua at *
                    refine wpAnyH_take (i := 0) (v := ?vq10x0) nth0 (by kernel_rfl) (by kernel_rfl) (by kernel_rfl) (fun _ _ _ h => h) (Or.inl ⟨by rfl, ?hyq10x0⟩) hHeld ?_
                    case hyq10x0 => (intro wH hSw; (try dsimp only at hSw); go_simp; (try with_reducible rfl))
                    simp only [Act.put, List.setIfInBounds_toArray, List.set_cons_zero, List.set_cons_succ]
                    refine wpAnyH_take (i := 1) (v := ?vq10x1) nth1 (by kernel_rfl) (by kernel_rfl) (by kernel_rfl) (fun _ _ _ h => h) (Or.inl ⟨by rfl, ?hyq10x1⟩) hHeld ?_
                    case hyq10x1 => (intro wH hSw; (try dsimp only at hSw); go_simp; (try with_reducible rfl))
                    simp only [Act.put, List.setIfInBounds_toArray, List.set_cons_zero, List.set_cons_succ]
                    refine wpAnyH_take (i := 2) (v := ?vq10x2) nth2 (by kernel_rfl) (by kernel_rfl) (by kernel_rfl) (fun _ _ _ h => h) (Or.inl ⟨by rfl, ?hyq10x2⟩) hHeld ?_
                    case hyq10x2 => (intro wH hSw; (try dsimp only at hSw); go_simp; (try with_reducible rfl))
                    simp only [Act.put, List.setIfInBounds_toArray, List.set_cons_zero, List.set_cons_succ]
                    refine wpAnyH_take (i := 3) (v := undef) nth3 (by kernel_rfl) (by kernel_rfl) (by kernel_rfl) (fun _ _ _ h => h) (Or.inr ⟨by rfl, rfl⟩) hHeld ?_
                    simp only [Act.put, List.setIfInBounds_toArray, List.set_cons_zero, List.set_cons_succ]
                    refine wpAnyH_take (i := 4) (v := undef) nth4 (by kernel_rfl) (by kernel_rfl) (by kernel_rfl) (fun _ _ _ h => h) (Or.inr ⟨by rfl, rfl⟩) hHeld ?_
                    simp only [Act.put, List.setIfInBounds_toArray, List.set_cons_zero, List.set_cons_succ]
                    refine wpAnyH_take (i := 5) (v := undef) nth5 (by kernel_rfl) (by kernel_rfl) (by kernel_rfl) (fun _ _ _ h => h) (Or.inr ⟨by rfl, rfl⟩) hHeld ?_
                    simp only [Act.put, List.setIfInBounds_toArray, List.set_cons_zero, List.set_cons_succ]
                    refine wpAnyH_take (i := 6) (v := undef) nth6 (by kernel_rfl) (by kernel_rfl) (by kernel_rfl) (fun _ _ _ h => h) (Or.inr ⟨by rfl, rfl⟩) hHeld ?_
                    simp only [Act.put, List.setIfInBounds_toArray, List.set_cons_zero, List.set_cons_succ]
                    refine wpAnyH_take (i := 7) (v := ?vq10x7) nth7 (by kernel_rfl) (by kernel_rfl) (by kernel_rfl) (fun _ _ _ h => h) (Or.inl ⟨by rfl, ?hyq10x7⟩) hHeld ?_
                    case hyq10x7 => (intro wH hSw; (try dsimp only at hSw); go_simp; (try with_reducible rfl))
                    simp only [Act.put, List.setIfInBounds_toArray, List.set_cons_zero, List.set_cons_succ]
                    refine wpAnyH_done (by kernel_rfl) ?_ _
                    clear hHeld s q22
                    obtain ⟨r0, r1, r2, r3, r4⟩ := id kR
                    obtain ⟨l0, l1, l2, l3, l4⟩ := id kL
                    go_upto_region 14 with fail
                    go_region
                    go_wp2_with fail
                    clear r0 r1 r2 r3 r4 l0 l1 l2 l3 l4
                    have hg := grown_set2 ua Lb (.int .i64 ps) (.int .i64 (mx + my))
                    have hBn := best_new (kL.put2 ps (mx + my)) (oj.out.grown hg (Or.inr (by simp [Value.ownBlock]; omega))) hjj.out (by rw [hps.out, hjj.out]) hsum.out
                    rw [hnew.out] at hBn
                    have bcn := bel_grown bc.out hg (by rw [hLb.out]; exact Nat.le_refl _)
                    go_roundw
                    case rel => exact ⟨i + 1, by simp; omega, by omega, Lib.hid (hBn.after (bel_drew _)), Lib.hid (bel_after bcn (bel_drew _))⟩
                    case measure => simp [intOf]; omega
                  · have hrk : (ps < p ∨ (ps = p ∧ mx + my < qq)) ↔ M.Better l X Y x y uu vv := by unfold M.Better; rw [hps.out, hjj.out, hsum.out, hp, hq]
                    rw [← M.cmp2_lt] at hrk
                    clear hp hq mb
                    by_cases hbt : M.Better l X Y x y uu vv
                    · have hnew := Lib.hid (show jj = M.slvY l X Y a1_ x b0 (i + 1) from by rw [hst2.out, hbe, M.slv_yes hbt, hjj.out])
                      have hd : decide (M.cmp2 ps (mx + my) p qq < 0) = true := by simp; exact hrk.2 hbt
                      clear hbe hbt hrk
                      have q22 : ∀ (w : World) (a : Option Addr) (n c n' c' : Nat), (binOp .eql 23 (.slice a n c) (.slice none n' c')).run Tryd.prog w = .ok (.bool a.isNone) w := fun w a n c n' c' => Lib.run_eql_slice_nil w _ _ a n c n' c' Tryd.underlying23
                      have q := bel_drew uz
                      replace k0 := k0.after q
                      replace kt := kt.after q
                      replace hr := Lib.hid (hr.out.after q)
                      replace hT := Lib.hid (hT.out.later q)
                      replace bb := Lib.hid (bel_after bb.out q)
                      replace bc := Lib.hid (bel_after bc.out q)
                      replace hB := Lib.hid (hB.out.after q)
                      replace oj := Lib.hid (oj.out.after q)
                      replace kR := kR.after q
                      replace kL := kL.after q
                      clear q
                      have s : True := True.intro
                      refine wp_region_held_drew (S := (fun _ => True)) (by kernel_rfl) s (fun hHeld => ?_)
                      generalize uz.drew = ua at *
                      refine wpAnyH_take (i := 0) (v := ?vq11x0) nth0 (by kernel_rfl) (by kernel_rfl) (by kernel_rfl) (fun _ _ _ h => h) (Or.inl ⟨by rfl, ?hyq11x0⟩) hHeld ?_
                      case hyq11x0 => (intro wH hSw; (try dsimp only at hSw); go_simp; (try with_reducible rfl))
                      simp only [Act.put, List.setIfInBounds_toArray, List.set_cons_zero, List.set_cons_succ]
                      refine wpAnyH_take (i := 1) (v := ?vq11x1) nth1 (by kernel_rfl) (by kernel_rfl) (by kernel_rfl) (fun _ _ _ h => h) (Or.inl ⟨by rfl, ?hyq11x1⟩) hHeld ?_
                      case hyq11x1 => (intro wH hSw; (try dsimp only at hSw); go_simp; (try with_reducible rfl))
                      simp only [Act.put, List.setIfInBounds_toArray, List.set_cons_zero, List.set_cons_succ]
                      refine wpAnyH_take (i := 2) (v := ?vq11x2) nth2 (by kernel_rfl) (by kernel_rfl) (by kernel_rfl) (fun _ _ _ h => h) (Or.inl ⟨by rfl, ?hyq11x2⟩) hHeld ?_
                      case hyq11x2 => (intro wH hSw; (try dsimp only at hSw); go_simp; (try with_reducible rfl))
                      simp only [Act.put, List.setIfInBounds_toArray, List.set_cons_zero, List.set_cons_succ]
                      refine wpAnyH_take (i := 3) (v := ?vq11x3) nth3 (by kernel_rfl) (by kernel_rfl) (by kernel_rfl) (fun _ _ _ h => h) (Or.inl ⟨by rfl, ?hyq11x3⟩) hHeld ?_
                      case hyq11x3 => (intro wH hSw; (try dsimp only at hSw); go_simp; (try with_reducible rfl))
                      simp only [Act.put, List.setIfInBounds_toArray, List.set_cons_zero, List.set_cons_succ]
                      refine wpAnyH_take (i := 4) (v := ?vq11x4) nth4 (by kernel_rfl) (by kernel_rfl) (by kernel_rfl) (fun _ _ _ h => h) (Or.inl ⟨by rfl, ?hyq11x4⟩) hHeld ?_
                      case hyq11x4 => (intro wH hSw; (try dsimp only at hSw); go_simp; (try with_reducible rfl))
                      simp only [Act.put, List.setIfInBounds_toArray, List.set_cons_zero, List.set_cons_succ]
                      refine wpAnyH_ready (rs := [5]) (by kernel_rfl) (by simp) ?_
                      refine AllReadyH.cons nth5 (fun K hK => ?_) ?_
                      · go_simp
                        go_at_call 40
                        refine (slices_cmp2 R Lb ps (mx + my) p qq _ kR kL).mono ?_
                        rintro e wc ⟨rfl, rfl⟩
                        clear s
                        clear hHeld
                        have s : True := True.intro
                        refine hK.out _ _ s (fun hHeld => ?_)
                        clear hK K
                        try simp only [Act.put, List.setIfInBounds_toArray, List.set_cons_zero, List.set_cons_succ]
                        refine wpAnyH_take (i := 6) (v := ?vq11x6) nth6 (by kernel_rfl) (by kernel_rfl) (by kernel_rfl) (fun _ _ _ h => h) (Or.inl ⟨by rfl, ?hyq11x6⟩) hHeld ?_
                        case hyq11x6 => (intro wH hSw; (try dsimp only at hSw); go_simp; (try with_reducible rfl))
                        simp only [Act.put, List.setIfInBounds_toArray, List.set_cons_zero, List.set_cons_succ]
                        refine wpAnyH_take (i := 7) (v := ?vq11x7) nth7 (by kernel_rfl) (by kernel_rfl) (by kernel_rfl) (fun _ _ _ h => h) (Or.inl ⟨by rfl, ?hyq11x7⟩) hHeld ?_
                        case hyq11x7 => (intro wH hSw; (try dsimp only at hSw); go_simp; (try with_reducible rfl))
                        simp only [Act.put, List.setIfInBounds_toArray, List.set_cons_zero, List.set_cons_succ]
                        refine wpAnyH_done (by kernel_rfl) ?_ _
                        clear hHeld s q22
                        clear hd
                        obtain ⟨r0, r1, r2, r3, r4⟩ := id kR
                        obtain ⟨l0, l1, l2, l3, l4⟩ := id kL
                        go_upto_region 14 with fail
                        go_region
                        go_wp2_with fail
                        clear r0 r1 r2 r3 r4 l0 l1 l2 l3 l4
                        have hg := grown_set2 ua Lb (.int .i64 ps) (.int .i64 (mx + my))
                        have hBn := best_new (kL.put2 ps (mx + my)) (oj.out.grown hg (Or.inr (by simp [Value.ownBlock]; omega))) hjj.out (by rw [hps.out, hjj.out]) hsum.out
                        rw [hnew.out] at hBn
                        have bcn := bel_grown bc.out hg (by rw [hLb.out]; exact Nat.le_refl _)
                        go_roundw
                        case rel => exact ⟨i + 1, by simp; omega, by omega, Lib.hid (hBn.after (bel_drew _)), Lib.hid (bel_after bcn (bel_drew _))⟩
                        case measure => simp [intOf]; omega
                      exact AllReadyH.nil
                    · have hnew := Lib.hid (show b1 = M.slvY l X Y a1_ x b0 (i + 1) from by rw [hst2.out, hbe, M.slv_no hbt])
                      have hd : decide (M.cmp2 ps (mx + my) p qq < 0) = false := by rw [decide_eq_false_iff_not]; exact fun h => hbt (hrk.1 h)
                      clear hbe hbt hrk
                      have q22 : ∀ (w : World) (a : Option Addr) (n c n' c' : Nat), (binOp .eql 23 (.slice a n c) (.slice none n' c')).run Tryd.prog w = .ok (.bool a.isNone) w := fun w a n c n' c' => Lib.run_eql_slice_nil w _ _ a n c n' c' Tryd.underlying23
                      have q := bel_drew uz
                      replace k0 := k0.after q
                      replace kt := kt.after q
                      replace hr := Lib.hid (hr.out.after q)
                      replace hT := Lib.hid (hT.out.later q)
                      replace bb := Lib.hid (bel_after bb.out q)
                      replace bc := Lib.hid (bel_after bc.out q)
                      replace hB := Lib.hid (hB.out.after q)
                      replace oj := Lib.hid (oj.out.after q)
                      replace kR := kR.after q
                      replace kL := kL.after q
                      clear q
                      have s : True := True.intro
                      refine wp_region_held_drew (S := (fun _ => True)) (by kernel_rfl) s (fun hHeld => ?_)
                      generalize uz.drew = ua at *
                      refine wpAnyH_take (i := 0) (v := ?vq12x0) nth0 (by kernel_rfl) (by kernel_rfl) (by kernel_rfl) (fun _ _ _ h => h) (Or.inl ⟨by rfl, ?hyq12x0⟩) hHeld ?_
                      case hyq12x0 => (intro wH hSw; (try dsimp only at hSw); go_simp; (try with_reducible rfl))
                      simp only [Act.put, List.setIfInBounds_toArray, List.set_cons_zero, List.set_cons_succ]
                      refine wpAnyH_take (i := 1) (v := ?vq12x1) nth1 (by kernel_rfl) (by kernel_rfl) (by kernel_rfl) (fun _ _ _ h => h) (Or.inl ⟨by rfl, ?hyq12x1⟩) hHeld ?_
                      case hyq12x1 => (intro wH hSw; (try dsimp only at hSw); go_simp; (try with_reducible rfl))
                      simp only [Act.put, List.setIfInBounds_toArray, List.set_cons_zero, List.set_cons_succ]
                      refine wpAnyH_take (i := 2) (v := ?vq12x2) nth2 (by kernel_rfl) (by kernel_rfl) (by kernel_rfl) (fun _ _ _ h => h) (Or.inl ⟨by rfl, ?hyq12x2⟩) hHeld ?_
                      case hyq12x2 => (intro wH hSw; (try dsimp only at hSw); go_simp; (try with_reducible rfl))
                      simp only [Act.put, List.setIfInBounds_toArray, List.set_cons_zero, List.set_cons_succ]
                      refine wpAnyH_take (i := 3) (v := ?vq12x3) nth3 (by kernel_rfl) (by kernel_rfl) (by kernel_rfl) (fun _ _ _ h => h) (Or.inl ⟨by rfl, ?hyq12x3⟩) hHeld ?_
                      case hyq12x3 => (intro wH hSw; (try dsimp only at hSw); go_simp; (try with_reducible rfl))
                      simp only [Act.put, List.setIfInBounds_toArray, List.set_cons_zero, List.set_cons_succ]
                      refine wpAnyH_take (i := 4) (v := ?vq12x4) nth4 (by kernel_rfl) (by kernel_rfl) (by kernel_rfl) (fun _ _ _ h => h) (Or.inl ⟨by rfl, ?hyq12x4⟩) hHeld ?_
                      case hyq12x4 => (intro wH hSw; (try dsimp only at hSw); go_simp; (try with_reducible rfl))
                      simp only [Act.put, List.setIfInBounds_toArray, List.set_cons_zero, List.set_cons_succ]
                      refine wpAnyH_ready (rs := [5]) (by kernel_rfl) (by simp) ?_
                      refine AllReadyH.cons nth5 (fun K hK => ?_) ?_
                      · go_simp
                        go_at_call 40
                        refine (slices_cmp2 R Lb ps (mx + my) p qq _ kR kL).mono ?_
                        rintro e wc ⟨rfl, rfl⟩
                        clear s
                        clear hHeld
                        have s : True := True.intro
                        refine hK.out _ _ s (fun hHeld => ?_)
                        clear hK K
                        try simp only [Act.put, List.setIfInBounds_toArray, List.set_cons_zero, List.set_cons_succ]
                        refine wpAnyH_take (i := 6) (v := ?vq12x6) nth6 (by kernel_rfl) (by kernel_rfl) (by kernel_rfl) (fun _ _ _ h => h) (Or.inl ⟨by rfl, ?hyq12x6⟩) hHeld ?_
                        case hyq12x6 => (intro wH hSw; (try dsimp only at hSw); go_simp; (try with_reducible rfl))
                        simp only [Act.put, List.setIfInBounds_toArray, List.set_cons_zero, List.set_cons_succ]
                        refine wpAnyH_take (i := 7) (v := ?vq12x7) nth7 (by kernel_rfl) (by kernel_rfl) (by kernel_rfl) (fun _ _ _ h => h) (Or.inl ⟨by rfl, ?hyq12x7⟩) hHeld ?_
                        case hyq12x7 => (intro wH hSw; (try dsimp only at hSw); go_simp; (try with_reducible rfl))
                        simp only [Act.put, List.setIfInBounds_toArray, List.set_cons_zero, List.set_cons_succ]
                        refine wpAnyH_done (by kernel_rfl) ?_ _
                        clear hHeld s q22
                        clear hd
                        go_wp2_with fail
                        replace hB := hB.out
                        rw [hnew.out] at hB
                        go_roundw
                        case rel => exact ⟨i + 1, by simp; omega, by omega, hB, bc⟩
                        case measure => simp [intOf]; omega
                      exact AllReadyH.nil
                exact AllReadyH.nil
              exact AllReadyH.nil
            exact AllReadyH.nil
          refine AllReadyH.cons nth15 (fun K hK => ?_) ?_
          · go_simp
            have q := bel_new u0 (.cells #[.int .i64 0, .int .i64 0] 63)
            have kR := Slot.new u0 0 0 63
            obtain ⟨R, hRe⟩ : ∃ R, R = (u0).heap.size := ⟨_, rfl⟩
            rw [← hRe] at kR ⊢
            have hR : u0.heap.size ≤ R := by rw [hRe]; exact bz.out.size
            clear hRe
            replace bz := Lib.hid (bel_after bz.out q)
            replace k0 := k0u.after bz.out
            replace kt := ktu.after bz.out
            replace hr := Lib.hid (hru.out.after bz.out)
            replace hT := Lib.hid (hTu.out.later bz.out)
            replace bb := Lib.hid (bel_after bbu.out bz.out)
            replace bc := Lib.hid (bel_after bcu.out bz.out)
            replace hB := Lib.hid (hBu.out.after bz.out)
            replace oj := Lib.hid (oju.out.after bz.out)
            clear q s
            obtain ⟨wt1, hw1⟩ : ∃ u_ : World, u_ = (u0).alloc (.cells #[.int .i64 0, .int .i64 0] 63) := ⟨_, rfl⟩
            rw [← hw1] at k0 kt hr hT bb bc hB oj kR bz ⊢
            clear hw1
            clear hHeld
            have s := (And.intro (And.intro k0.c0 (And.intro k0.c1 k0.c2)) (And.intro kt.1 kt.2.1))
            refine hK.out _ _ s (fun hHeld => ?_)
            clear hK K
            try simp only [Act.put, List.setIfInBounds_toArray, List.set_cons_zero, List.set_cons_succ]
            refine wpAnyH_ready (rs := [2]) (by kernel_rfl) (by simp) ?_
            refine AllReadyH.cons nth2 (fun K hK => ?_) ?_
            · go_simp
              go_at_call 39
              refine (impl_tipV a1 (some ⟨b2, o2, none⟩) (some ⟨b3, o3, none⟩) (some ⟨J, 0, none⟩) n1 c1 n2 c2 n3 c3 2 2 l lo hi jj _ hT.out h1.out hcl.out hC.out hr.out oj.out.row).mono ?_
              rintro e wt2 ⟨rfl, q⟩
              replace bz := Lib.hid (bel_after bz.out q)
              replace k0 := k0u.after bz.out
              replace kt := ktu.after bz.out
              replace hr := Lib.hid (hru.out.after bz.out)
              replace hT := Lib.hid (hTu.out.later bz.out)
              replace bb := Lib.hid (bel_after bbu.out bz.out)
              replace bc := Lib.hid (bel_after bcu.out bz.out)
              replace hB := Lib.hid (hBu.out.after bz.out)
              replace oj := Lib.hid (oju.out.after bz.out)
              replace kR := kR.after q
              clear q s
              clear hHeld
              have s := (And.intro (And.intro k0.c0 (And.intro k0.c1 k0.c2)) (And.intro kt.1 kt.2.1))
              refine hK.out _ _ s (fun hHeld => ?_)
              clear hK K
              try simp only [Act.put, List.setIfInBounds_toArray, List.set_cons_zero, List.set_cons_succ]
              refine wpAnyH_ready (rs := [4]) (by kernel_rfl) (by simp) ?_
              refine AllReadyH.cons nth4 (fun K hK => ?_) ?_
              · go_simp
                go_at_call 38
                refine (impl_score l lo hi jj 2 X Y _ hcl.out hC.out hP.out).mono ?_
                rintro e wt3 ⟨rfl, q⟩
                rw [← hps.out]
                replace bz := Lib.hid (bel_after bz.out q)
                replace k0 := k0u.after bz.out
                replace kt := ktu.after bz.out
                replace hr := Lib.hid (hru.out.after bz.out)
                replace hT := Lib.hid (hTu.out.later bz.out)
                replace bb := Lib.hid (bel_after bbu.out bz.out)
                replace bc := Lib.hid (bel_after bcu.out bz.out)
                replace hB := Lib.hid (hBu.out.after bz.out)
                replace oj := Lib.hid (oju.out.after bz.out)
                replace kR := kR.after q
                clear q s
                clear hHeld
                have s := (And.intro (And.intro k0.c0 (And.intro k0.c1 k0.c2)) (And.intro kt.1 kt.2.1))
                refine hK.out _ _ s (fun hHeld => ?_)
                clear hK K
                try simp only [Act.put, List.setIfInBounds_toArray, List.set_cons_zero, List.set_cons_succ]
                refine wpAnyH_take (i := 14) (v := ?vq6x14) nth14 (by kernel_rfl) (by kernel_rfl) (by kernel_rfl) (fun _ _ _ h => h) (Or.inl ⟨by rfl, ?hyq6x14⟩) hHeld ?_
                case hyq6x14 => (intro wH hSw; (try dsimp only at hSw); go_simp; (try with_reducible rfl))
                simp only [Act.put, List.setIfInBounds_toArray, List.set_cons_zero, List.set_cons_succ]
                refine wpAnyH_ready (rs := [16]) (by kernel_rfl) (by simp) ?_
                refine AllReadyH.cons nth16 (fun K hK => ?_) ?_
                · obtain ⟨r0, r1, r2, r3, r4⟩ := id kR
                  go_simp
                  clear r0 r1 r2 r3 r4 s
                  have hg := grown_set2 wt3 R (.int .i64 ps) (.int .i64 (mx + my))
                  replace bz := Lib.hid (bel_grown bz.out hg hR)
                  replace kR := kR.put2 ps (mx + my)
                  replace k0 := k0u.after bz.out
                  replace kt := ktu.after bz.out
                  replace hr := Lib.hid (hru.out.after bz.out)
                  replace hT := Lib.hid (hTu.out.later bz.out)
                  replace bb := Lib.hid (bel_after bbu.out bz.out)
                  replace bc := Lib.hid (bel_after bcu.out bz.out)
                  replace hB := Lib.hid (hBu.out.after bz.out)
                  replace oj := Lib.hid (oju.out.after bz.out)
                  clear hg
                  generalize (wt3.setCell ⟨R, 0, none⟩ (.int .i64 ps)).setCell ⟨R, 1, none⟩ (.int .i64 (mx + my)) = wt4 at *
                  clear hHeld
                  have s := (And.intro (And.intro k0.c0 (And.intro k0.c1 k0.c2)) (And.intro kt.1 kt.2.1))
                  refine hK.out _ _ s (fun hHeld => ?_)
                  clear hK K
                  try simp only [Act.put, List.setIfInBounds_toArray, List.set_cons_zero, List.set_cons_succ]
                  refine wpAnyH_done (by kernel_rfl) ?_ _
                  obtain ⟨uz, rfl⟩ : ∃ u_ : World, u_ = wt4 := ⟨_, rfl⟩
                  clear s hHeld k0u ktu hru hTu bbu bcu hBu oju bz hR
                  go_upto_region 13 with fail
                  obtain ⟨p, qq, kL, hcase⟩ := hB.out
                  rcases hcase with ⟨hbe, rfl⟩ | ⟨uu, vv, ad, cap, hbe, rfl, mb, hp, hq⟩
                  · have hnew := Lib.hid (show jj = M.slvY l X Y a1_ x b0 (i + 1) from by rw [hst2.out, hbe, M.slv_nil, hjj.out])
                    clear hbe
                    have q22 : ∀ (w : World) (a : Option Addr) (n c n' c' : Nat), (binOp .eql 23 (.slice a n c) (.slice none n' c')).run Tryd.prog w = .ok (.bool a.isNone) w := fun w a n c n' c' => Lib.run_eql_slice_nil w _ _ a n c n' c' Tryd.underlying23
                    have q := bel_drew uz
                    replace k0 := k0.after q
                    replace kt := kt.after q
                    replace hr := Lib.hid (hr.out.after q)
                    replace hT := Lib.hid (hT.out.later q)
                    replace bb := Lib.hid (bel_after bb.out q)
                    replace bc := Lib.hid (bel_after bc.out q)
                    replace hB := Lib.hid (hB.out.after q)
                    replace oj := Lib.hid (oj.out.after q)
                    replace kR := kR.after q
                    replace kL := kL.after q
                    clear q
                    have s : True := True.intro
                    refine wp_region_held_drew (S := (fun _ => True)) (by kernel_rfl) s (fun hHeld => ?_)
                    generalize uz.drew = ua at *
                    refine wpAnyH_take (i := 0) (v := ?vq13x0) nth0 (by kernel_rfl) (by kernel_rfl) (by kernel_rfl) (fun _ _ _ h => h) (Or.inl ⟨by rfl, ?hyq13x0⟩) hHeld ?_
                    case hyq13x0 => (intro wH hSw; (try dsimp only at hSw); go_simp; (try with_reducible rfl))
                    simp only [Act.put, List.setIfInBounds_toArray, List.set_cons_zero, List.set_cons_succ]
                    refine wpAnyH_take (i := 1) (v := ?vq13x1) nth1 (by kernel_rfl) (by kernel_rfl) (by kernel_rfl) (fun _ _ _ h => h) (Or.inl ⟨by rfl, ?hyq13x1⟩) hHeld ?_
                    case hyq13x1 => (intro wH hSw; (try dsimp only at hSw); go_simp; (try with_reducible rfl))
                    simp only [Act.put, List.setIfInBounds_toArray, List.set_cons_zero, List.set_cons_succ]
                    refine wpAnyH_take (i := 2) (v := ?vq13x2) nth2 (by kernel_rfl) (by kernel_rfl) (by kernel_rfl) (fun _ _ _ h => h) (Or.inl ⟨by rfl, ?hyq13x2⟩) hHeld ?_
                    case hyq13x2 => (intro wH hSw; (try dsimp only at hSw); go_simp; (try with_reducible rfl))
                    simp only [Act.put, List.setIfInBounds_toArray, List.set_cons_zero, List.set_cons_succ]
                    refine wpAnyH_take (i := 3) (v := undef) nth3 (by kernel_rfl) (by kernel_rfl) (by kernel_rfl) (fun _ _ _ h => h) (Or.inr ⟨by rfl, rfl⟩) hHeld ?_
                    simp only [Act.put, List.setIfInBounds_toArray, List.set_cons_zero, List.set_cons_succ]
                    refine wpAnyH_take (i := 4) (v := undef) nth4 (by kernel_rfl) (by kernel_rfl) (by kernel_rfl) (fun _ _ _ h => h) (Or.inr ⟨by rfl, rfl⟩) hHeld ?_
                    simp only [Act.put, List.setIfInBounds_toArray, List.set_cons_zero, List.set_cons_succ]
                    refine wpAnyH_take (i := 5) (v := undef) nth5 (by kernel_rfl) (by kernel_rfl) (by kernel_rfl) (fun _ _ _ h => h) (Or.inr ⟨by rfl, rfl⟩) hHeld ?_
                    simp only [Act.put, List.setIfInBounds_toArray, List.set_cons_zero, List.set_cons_succ]
                    refine wpAnyH_take (i := 6) (v := undef) nth6 (by kernel_rfl) (by kernel_rfl) (by kernel_rfl) (fun _ _ _ h => h) (Or.inr ⟨by rfl, rfl⟩) hHeld ?_
                    simp only [Act.put, List.setIfInBounds_toArray, List.set_cons_zero, List.set_cons_succ]
                    refine wpAnyH_take (i := 7) (v := ?vq13x7) nth7 (by kernel_rfl) (by kernel_rfl) (by kernel_rfl) (fun _ _ _ h => h) (Or.inl ⟨by rfl, ?hyq13x7⟩) hHeld ?_
                    case hyq13x7 => (intro wH hSw; (try dsimp only at hSw); go_simp; (try with_reducible rfl))
                    simp only [Act.put, List.setIfInBounds_toArray, List.set_cons_zero, List.set_cons_succ]
                    refine wpAnyH_done (by kernel_rfl) ?_ _
                    clear hHeld s q22
                    obtain ⟨r0, r1, r2, r3, r4⟩ := id kR
                    obtain ⟨l0, l1, l2, l3, l4⟩ := id kL
                    go_upto_region 14 with fail
                    go_region
                    go_wp2_with fail
                    clear r0 r1 r2 r3 r4 l0 l1 l2 l3 l4
                    have hg := grown_set2 ua Lb (.int .i64 ps) (.int .i64 (mx + my))
                    have hBn := best_new (kL.put2 ps (mx + my)) (oj.out.grown hg (Or.inr (by simp [Value.ownBlock]; omega))) hjj.out (by rw [hps.out, hjj.out]) hsum.out
                    rw [hnew.out] at hBn
                    have bcn := bel_grown bc.out hg (by rw [hLb.out]; exact Nat.le_refl _)
                    go_roundw
                    case rel => exact ⟨i + 1, by simp; omega, by omega, Lib.hid (hBn.after (bel_drew _)), Lib.hid (bel_after bcn (bel_drew _))⟩
                    case measure => simp [intOf]; omega
                  · have hrk : (ps < p ∨ (ps = p ∧ mx + my < qq)) ↔ M.Better l X Y x y uu vv := by unfold M.Better; rw [hps.out, hjj.out, hsum.out, hp, hq]
                    rw [← M.cmp2_lt] at hrk
                    clear hp hq mb
                    by_cases hbt : M.Better l X Y x y uu vv
                    · have hnew := Lib.hid (show jj = M.slvY l X Y a1_ x b0 (i + 1) from by rw [hst2.out, hbe, M.slv_yes hbt, hjj.out])
                      have hd : decide (M.cmp2 ps (mx + my) p qq < 0) = true := by simp; exact hrk.2 hbt
                      clear hbe hbt hrk
                      have q22 : ∀ (w : World) (a : Option Addr) (n c n' c' : Nat), (binOp .eql 23 (.slice a n c) (.slice none n' c')).run Tryd.prog w = .ok (.bool a.isNone) w := fun w a n c n' c' => Lib.run_eql_slice_nil w _ _ a n c n' c' Tryd.underlying23
                      have q := bel_drew uz
                      replace k0 := k0.after q
                      replace kt := kt.after q
                      replace hr := Lib.hid (hr.out.after q)
                      replace hT := Lib.hid (hT.out.later q)
                      replace bb := Lib.hid (bel_after bb.out q)
                      replace bc := Lib.hid (bel_after bc.out q)
                      replace hB := Lib.hid (hB.out.after q)
                      replace oj := Lib.hid (oj.out.after q)
                      replace kR := kR.after q
                      replace kL := kL.after q
                      clear q
                      have s : True := True.intro
                      refine wp_region_held_drew (S := (fun _ => True)) (by kernel_rfl) s (fun hHeld => ?_)
                      generalize uz.drew = ua at *
                      refine wpAnyH_take (i := 0) (v := ?vq14x0) nth0 (by kernel_rfl) (by kernel_rfl) (by kernel_rfl) (fun _ _ _ h => h) (Or.inl ⟨by rfl, ?hyq14x0⟩) hHeld ?_
                      case hyq14x0 => (intro wH hSw; (try dsimp only at hSw); go_simp; (try with_reducible rfl))
                      simp only [Act.put, List.setIfInBounds_toArray, List.set_cons_zero, List.set_cons_succ]
                      refine wpAnyH_take (i := 1) (v := ?vq14x1) nth1 (by kernel_rfl) (by kernel_rfl) (by kernel_rfl) (fun _ _ _ h => h) (Or.inl ⟨by rfl, ?hyq14x1⟩) hHeld ?_
                      case hyq14x1 => (intro wH hSw; (try dsimp only at hSw); go_simp; (try with_reducible rfl))
                      simp only [Act.put, List.setIfInBounds_toArray, List.set_cons_zero, List.set_cons_succ]
                      refine wpAnyH_take (i := 2) (v := ?vq14x2) nth2 (by kernel_rfl) (by kernel_rfl) (by kernel_rfl) (fun _ _ _ h => h) (Or.inl ⟨by rfl, ?hyq14x2⟩) hHeld ?_
                      case hyq14x2 => (intro wH hSw; (try dsimp only at hSw); go_simp; (try with_reducible rfl))
                      simp only [Act.put, List.setIfInBounds_toArray, List.set_cons_zero, List.set_cons_succ]
                      refine wpAnyH_take (i := 3) (v := ?vq14x3) nth3 (by kernel_rfl) (by kernel_rfl) (by kernel_rfl) (fun _ _ _ h => h) (Or.inl ⟨by rfl, ?hyq14x3⟩) hHeld ?_
                      case hyq14x3 => (intro wH hSw; (try dsimp only at hSw); go_simp; (try with_reducible rfl))
                      simp only [Act.put, List.setIfInBounds_toArray, List.set_cons_zero, List.set_cons_succ]
                      refine wpAnyH_take (i := 4) (v := ?vq14x4) nth4 (by kernel_rfl) (by kernel_rfl) (by kernel_rfl) (fun _ _ _ h => h) (Or.inl ⟨by rfl, ?hyq14x4⟩) hHeld ?_
                      case hyq14x4 => (intro wH hSw; (try dsimp only at hSw); go_simp; (try with_reducible rfl))
                      simp only [Act.put, List.setIfInBounds_toArray, List.set_cons_zero, List.set_cons_succ]
                      refine wpAnyH_ready (rs := [5]) (by kernel_rfl) (by simp) ?_
                      refine AllReadyH.cons nth5 (fun K hK => ?_) ?_
                      · go_simp
                        go_at_call 40
                        refine (slices_cmp2 R Lb ps (mx + my) p qq _ kR kL).mono ?_
                        rintro e wc ⟨rfl, rfl⟩
                        clear s
                        clear hHeld
                        have s : True := True.intro
                        refine hK.out _ _ s (fun hHeld => ?_)
                        clear hK K
                        try simp only [Act.put, List.setIfInBounds_toArray, List.set_cons_zero, List.set_cons_succ]
                        refine wpAnyH_take (i := 6) (v := ?vq14x6) nth6 (by kernel_rfl) (by kernel_rfl) (by kernel_rfl) (fun _ _ _ h => h) (Or.inl ⟨by rfl, ?hyq14x6⟩) hHeld ?_
                        case hyq14x6 => (intro wH hSw; (try dsimp only at hSw); go_simp; (try with_reducible rfl))
                        simp only [Act.put, List.setIfInBounds_toArray, List.set_cons_zero, List.set_cons_succ]
                        refine wpAnyH_take (i := 7) (v := ?vq14x7) nth7 (by kernel_rfl) (by kernel_rfl) (by kernel_rfl) (fun _ _ _ h => h) (Or.inl ⟨by rfl, ?hyq14x7⟩) hHeld ?_
                        case hyq14x7 => (intro wH hSw; (try dsimp only at hSw); go_simp; (try with_reducible rfl))
                        simp only [Act.put, List.setIfInBounds_toArray, List.set_cons_zero, List.set_cons_succ]
                        refine wpAnyH_done (by kernel_rfl) ?_ _
                        clear hHeld s q22
                        clear hd
                        obtain ⟨r0, r1, r2, r3, r4⟩ := id kR
                        obtain ⟨l0, l1, l2, l3, l4⟩ := id kL
                        go_upto_region 14 with fail
                        go_region
                        go_wp2_with fail
                        clear r0 r1 r2 r3 r4 l0 l1 l2 l3 l4
                        have hg := grown_set2 ua Lb (.int .i64 ps) (.int .i64 (mx + my))
                        have hBn := best_new (kL.put2 ps (mx + my)) (oj.out.grown hg (Or.inr (by simp [Value.ownBlock]; omega))) hjj.out (by rw [hps.out, hjj.out]) hsum.out
                        rw [hnew.out] at hBn
                        have bcn := bel_grown bc.out hg (by rw [hLb.out]; exact Nat.le_refl _)
                        go_roundw
                        case rel => exact ⟨i + 1, by simp; omega, by omega, Lib.hid (hBn.after (bel_drew _)), Lib.hid (bel_after bcn (bel_drew _))⟩
                        case measure => simp [intOf]; omega
                      exact AllReadyH.nil
                    · have hnew := Lib.hid (show b1 = M.slvY l X Y a1_ x b0 (i + 1) from by rw [hst2.out, hbe, M.slv_no hbt])
                      have hd : decide (M.cmp2 ps (mx + my) p qq < 0) = false := by rw [decide_eq_false_iff_not]; exact fun h => hbt (hrk.1 h)
                      clear hbe hbt hrk
                      have q22 : ∀ (w : World) (a : Option Addr) (n c n' c' : Nat), (binOp .eql 23 (.slice a n c) (.slice none n' c')).run Tryd.prog w = .ok (.bool a.isNone) w := fun w a n c n' c' => Lib.run_eql_slice_nil w _ _ a n c n' c' Tryd.underlying23
                      have q := bel_drew uz
                      replace k0 := k0.after q
                      replace kt := kt.after q
                      replace hr := Lib.hid (hr.out.after q)
                      replace hT := Lib.hid (hT.out.later q)
                      replace bb := Lib.hid (bel_after bb.out q)
                      replace bc := Lib.hid (bel_after bc.out q)
                      replace hB := Lib.hid (hB.out.after q)
                      replace oj := Lib.hid (oj.out.after q)
                      replace kR := kR.after q
                      replace kL := kL.after q
                      clear q
                      have s : True := True.intro
                      refine wp_region_held_drew (S := (fun _ => True)) (by kernel_rfl) s (fun hHeld => ?_)
                      generalize uz.drew = ua at *
                      refine wpAnyH_take (i := 0) (v := ?vq15x0) nth0 (by kernel_rfl) (by kernel_rfl) (by kernel_rfl) (fun _ _ _ h => h) (Or.inl ⟨by rfl, ?hyq15x0⟩) hHeld ?_
                      case hyq15x0 => (intro wH hSw; (try dsimp only at hSw); go_simp; (try with_reducible rfl))
                      simp only [Act.put, List.setIfInBounds_toArray, List.set_cons_zero, List.set_cons_succ]
                      refine wpAnyH_take (i := 1) (v := ?vq15x1) nth1 (by kernel_rfl) (by kernel_rfl) (by kernel_rfl) (fun _ _ _ h => h) (Or.inl ⟨by rfl, ?hyq15x1⟩) hHeld ?_
                      case hyq15x1 => (intro wH hSw; (try dsimp only at hSw); go_simp; (try with_reducible rfl))
                      simp only [Act.put, List.setIfInBounds_toArray, List.set_cons_zero, List.set_cons_succ]
                      refine wpAnyH_take (i := 2) (v := ?vq15x2) nth2 (by kernel_rfl) (by kernel_rfl) (by kernel_rfl) (fun _ _ _ h => h) (Or.inl ⟨by rfl, ?hyq15x2⟩) hHeld ?_
                      case hyq15x2 => (intro wH hSw; (try dsimp only at hSw); go_simp; (try with_reducible rfl))
                      simp only [Act.put, List.setIfInBounds_toArray, List.set_cons_zero, List.set_cons_succ]
                      refine wpAnyH_take (i := 3) (v := ?vq15x3) nth3 (by kernel_rfl) (by kernel_rfl) (by kernel_rfl) (fun _ _ _ h => h) (Or.inl ⟨by rfl, ?hyq15x3⟩) hHeld ?_
                      case hyq15x3 => (intro wH hSw; (try dsimp only at hSw); go_simp; (try with_reducible rfl))
                      simp only [Act.put, List.setIfInBounds_toArray, List.set_cons_zero, List.set_cons_succ]
                      refine wpAnyH_take (i := 4) (v := ?vq15x4) nth4 (by kernel_rfl) (by kernel_rfl) (by kernel_rfl) (fun _ _ _ h => h) (Or.inl ⟨by rfl, ?hyq15x4⟩) hHeld ?_
                      case hyq15x4 => (intro wH hSw; (try dsimp only at hSw); go_simp; (try with_reducible rfl))
                      simp only [Act.put, List.setIfInBounds_toArray, List.set_cons_zero, List.set_cons_succ]
                      refine wpAnyH_ready (rs := [5]) (by kernel_rfl) (by simp) ?_
                      refine AllReadyH.cons nth5 (fun K hK => ?_) ?_
                      · go_simp
                        go_at_call 40
                        refine (slices_cmp2 R Lb ps (mx + my) p qq _ kR kL).mono ?_
                        rintro e wc ⟨rfl, rfl⟩
                        clear s
                        clear hHeld
                        have s : True := True.intro
                        refine hK.out _ _ s (fun hHeld => ?_)
                        clear hK K
                        try simp only [Act.put, List.setIfInBounds_toArray, List.set_cons_zero, List.set_cons_succ]
                        refine wpAnyH_take (i := 6) (v := ?vq15x6) nth6 (by kernel_rfl) (by kernel_rfl) (by kernel_rfl) (fun _ _ _ h => h) (Or.inl ⟨by rfl, ?hyq15x6⟩) hHeld ?_
                        case hyq15x6 => (intro wH hSw; (try dsimp only at hSw); go_simp; (try with_reducible rfl))
                        simp only [Act.put, List.setIfInBounds_toArray, List.set_cons_zero, List.set_cons_succ]
                        refine wpAnyH_take (i := 7) (v := ?vq15x7) nth7 (by kernel_rfl) (by kernel_rfl) (by kernel_rfl) (fun _ _ _ h => h) (Or.inl ⟨by rfl, ?hyq15x7⟩) hHeld ?_
                        case hyq15x7 => (intro wH hSw; (try dsimp only at hSw); go_simp; (try with_reducible rfl))
                        simp only [Act.put, List.setIfInBounds_toArray, List.set_cons_zero, List.set_cons_succ]
                        refine wpAnyH_done (by kernel_rfl) ?_ _
                        clear hHeld s q22
                        clear hd
                        go_wp2_with fail
                        replace hB := hB.out
                        rw [hnew.out] at hB
                        go_roundw
                        case rel => exact ⟨i + 1, by simp; omega, by omega, hB, bc⟩
                        case measure => simp [intOf]; omega
                      exact AllReadyH.nil
                exact AllReadyH.nil
              exact AllReadyH.nil
            exact AllReadyH.nil
          exact AllReadyH.nil
        · obtain rfl : i = MM := by omega
          have hle4 : decide (y ≤ e1_) = false := by simp; omega
          obtain ⟨x0, x1, x2, x3, x4, x5⟩ := id k0
          obtain ⟨t0, t1, t2, t3, t4⟩ := id kt
          obtain ⟨⟨y20, y21⟩, y30, y31⟩ := (show ((wr.cell? ⟨b2, o2, none⟩ = some (.int .i64 a0_) ∧ wr.cell? ⟨b2, o2 + 1, none⟩ = some (.int .i64 a1_)) ∧ (wr.cell? ⟨b3, o3, none⟩ = some (.int .i64 e0_) ∧ wr.cell? ⟨b3, o3 + 1, none⟩ = some (.int .i64 e1_))) from (And.intro (And.intro (rowv hr.out.2.1 (Below.refl _ _) (k := 0) (by rw [h2.out]; omega) hx0.out) (rowv hr.out.2.1 (Below.refl _ _) (k := 1) (by rw [h2.out]; omega) hx1.out)) (And.intro (rowv hr.out.2.2 (Below.refl _ _) (k := 0) (by rw [h3.out]; omega) hx2.out) (rowv hr.out.2.2 (Below.refl _ _) (k := 1) (by rw [h3.out]; omega) hx3.out))))
          go_wp2_with fail
          clear x0 x1 x2 x3 x4 x5 t0 t1 t2 t3 t4 y20 y21 y30 y31
          go_roundw
          case rel => exact ⟨k + 1, by simp; omega, by omega, by rw [hstep.out, hb1.out]; exact hB, bc⟩
          case measure => simp [intOf]; omega
    · obtain rfl : k = KK := by omega
      have hle2 : decide (x ≤ e0_) = false := by simp; omega
      obtain ⟨x0, x1, x2, x3, x4, x5⟩ := id k0
      obtain ⟨t0, t1, t2, t3, t4⟩ := id kt
      obtain ⟨⟨y20, y21⟩, y30, y31⟩ := (show ((wr.cell? ⟨b2, o2, none⟩ = some (.int .i64 a0_) ∧ wr.cell? ⟨b2, o2 + 1, none⟩ = some (.int .i64 a1_)) ∧ (wr.cell? ⟨b3, o3, none⟩ = some (.int .i64 e0_) ∧ wr.cell? ⟨b3, o3 + 1, none⟩ = some (.int .i64 e1_))) from (And.intro (And.intro (rowv hr.out.2.1 (Below.refl _ _) (k := 0) (by rw [h2.out]; omega) hx0.out) (rowv hr.out.2.1 (Below.refl _ _) (k := 1) (by rw [h2.out]; omega) hx1.out)) (And.intro (rowv hr.out.2.2 (Below.refl _ _) (k := 0) (by rw [h3.out]; omega) hx2.out) (rowv hr.out.2.2 (Below.refl _ _) (k := 1) (by rw [h3.out]; omega) hx3.out))))
      go_wp2_with fail
      clear x0 x1 x2 x3 x4 x5 t0 t1 t2 t3 t4 y20 y21 y30 y31
      rw [← hfound.out, hfin.out] at hB
      obtain ⟨p, q, _, hB⟩ := hB.out
      go_ret
      exact ints_fin rfl (best_owns hB) bb.out
end Go.Proofs.YtmainffjekjlnaaDoor
