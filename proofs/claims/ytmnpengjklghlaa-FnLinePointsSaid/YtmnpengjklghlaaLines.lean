/- Contracts of the points of a line, in both packages. -/
import Derived.Test.YtmnpengjklghlaaLine
namespace Go.Proofs.Ytmnpengjklghlaa
open Go.ChangeShapes Go.WideShapes Go.ChangeAt Go.RowKit
set_option linter.unusedVariables false
theorem OwnsP.base {w : World} {B B' : Nat} {v : Value} {l : List (Int × Int)} (h : OwnsP w B v l) (hB : B' ≤ B) : OwnsP w B' v l := by
  obtain ⟨h1, h2⟩ := h
  refine ⟨h1, ?_⟩
  rcases h2 with h2 | ⟨g, cap, cur, e, hg, r⟩
  · exact .inl h2
  · exact .inr ⟨g, cap, cur, e, by omega, r⟩
theorem two_new (w : World) (x y : Int) (t : TypeId) : ∀ j u, [Value.int .i64 x, .int .i64 y][j]? = some u → ((w.alloc (.cells #[.int .i64 x, .int .i64 y] t)).drew).cell? ((⟨w.heap.size, 0, none⟩ : Addr).add j) = some u := by
  intro j u hj
  have hb := Box.new w x y t
  match j, hj with
  | 0, hj => simp at hj; subst hj; exact hb.1
  | 1, hj => simp at hj; subst hj; exact hb.2.1
theorem OwnsP.drew {w : World} {B : Nat} {v : Value} {l : List (Int × Int)} (h : OwnsP w B v l) : OwnsP w.drew B v l := h
theorem OwnsP.drewAlloc {w : World} {B : Nat} {v : Value} {l : List (Int × Int)} (h : OwnsP w B v l) (o : Obj) : World.ownsRow (w.alloc o).drew B 26 2 v l.length (ptCells l) := World.ownsRow.alloc h o
theorem two_one (x y : Int) : ∀ u ∈ [Value.int .i64 x, .int .i64 y], u.oneCell' = true := by intro u hu; simp at hu; rcases hu with rfl | rfl <;> rfl
/-- the boxes of two points -/
def Two (w : World) (k : Nat) (a b c d : Int) : Prop := (w.cell? ⟨k, 0, none⟩ = some (.int .i64 a) ∧ w.cell? ⟨k, 1, none⟩ = some (.int .i64 b)) ∧ (w.cell? ⟨k + 1, 0, none⟩ = some (.int .i64 c) ∧ w.cell? ⟨k + 1, 1, none⟩ = some (.int .i64 d))
theorem Two.below {w w' : World} {B k : Nat} {a b c d : Int} (h : Two w k a b c d) (hb : Below B w w') (hk : k + 1 < B) : Two w' k a b c d :=
  ⟨⟨by rw [hb.cell (p := ⟨k, 0, none⟩) (by show k < B; omega)]; exact h.1.1, by rw [hb.cell (p := ⟨k, 1, none⟩) (by show k < B; omega)]; exact h.1.2⟩, ⟨by rw [hb.cell (p := ⟨k + 1, 0, none⟩) hk]; exact h.2.1, by rw [hb.cell (p := ⟨k + 1, 1, none⟩) hk]; exact h.2.2⟩⟩
set_option maxHeartbeats 4000000 in
theorem spec_line (a b c d n : Int) (w : World) :
    Calls Try.prog 7 #[.agg #[.int .i64 a, .int .i64 b], .agg #[.int .i64 c, .int .i64 d], .int .i64 n] w (PtsOut w (M.lpts a b c d n)) := by
  obtain ⟨i0, hi, hz0, hz1, hz2⟩ := info_parts infoPt
  have B0 := ((Box.new w a b 26).alloc (.cells #[.int .i64 c, .int .i64 d] 26)).alloc (.cells #[] 26)
  have B1 := (Box.new (w.alloc (.cells #[.int .i64 a, .int .i64 b] 26)) c d 26).alloc (.cells #[] 26)
  rw [World.size_alloc] at B1
  have s : Two (((w.alloc (.cells #[.int .i64 a, .int .i64 b] 26)).alloc (.cells #[.int .i64 c, .int .i64 d] 26)).alloc (.cells #[] 26)) w.heap.size a b c d := ⟨⟨B0.1, B0.2.1⟩, ⟨B1.1, B1.2.1⟩⟩
  have hq := Lib.hid (bel_alloc (bel_alloc (bel_alloc (Below.refl _ w) (.cells #[.int .i64 a, .int .i64 b] 26)) (.cells #[.int .i64 c, .int .i64 d] 26)) (.cells #[] 26))
  have ho := OwnsP.made (w := (w.alloc (.cells #[.int .i64 a, .int .i64 b] 26)).alloc (.cells #[.int .i64 c, .int .i64 d] 26)) (B := w.heap.size + 2) (by simp)
  rw [World.size_alloc, World.size_alloc] at ho
  have hs0 : w.heap.size + 2 < (((w.alloc (.cells #[.int .i64 a, .int .i64 b] 26)).alloc (.cells #[.int .i64 c, .int .i64 d] 26)).alloc (.cells #[] 26)).heap.size := by simp
  clear B0 B1
  go_enter Try.func7, Try.ntmps7
  obtain ⟨⟨s1, s2⟩, ⟨s3, s4⟩⟩ := id s
  go_wp2_with fail
  refine (spec_pv _ _ _).mono ?_
  rintro e wa ⟨rfl, g⟩
  have s := s.below g (by simp)
  have ho := ho.old g
  have hq := Lib.hid (bel_trans hq.out (Lib.hid g))
  have hsa := g.size
  have hs0 : w.heap.size + 2 < wa.heap.size := by omega
  clear g hsa s1 s2 s3 s4
  cases h1 : M.pvB a b
  · have e0 := Lib.hid (M.lpts_no (a := a) (b := b) (c := c) (d := d) (n := n) (fun h => by rw [h.1.1] at h1; cases h1))
    go_wp2_with fail
    go_ret
    exact ⟨_, rfl, by rw [e0.out]; exact ho.base (by omega), hq.out⟩
  · obtain ⟨⟨s1, s2⟩, ⟨s3, s4⟩⟩ := id s
    go_wp2_with fail
    refine (spec_pv _ _ _).mono ?_
    rintro e wb ⟨rfl, g⟩
    have s := s.below g (by omega)
    have ho := ho.old g
    have hq := Lib.hid (bel_trans hq.out (Lib.hid g))
    have hsb := g.size
    have hs0 : w.heap.size + 2 < wb.heap.size := by omega
    clear g hsb s1 s2 s3 s4
    cases h2 : M.pvB c d
    · have e0 := Lib.hid (M.lpts_no (a := a) (b := b) (c := c) (d := d) (n := n) (fun h => by rw [h.1.2] at h2; cases h2))
      go_wp2_with fail
      go_ret
      exact ⟨_, rfl, by rw [e0.out]; exact ho.base (by omega), hq.out⟩
    · by_cases hn : 1 ≤ n ∧ n ≤ 400
      · have e0 := Lib.hid (M.lpts_yes (a := a) (b := b) (c := c) (d := d) (n := n) ⟨⟨h1, h2⟩, hn⟩)
        obtain ⟨p1, p2, p3, p4⟩ := M.pvB_true.1 h1
        obtain ⟨p5, p6, p7, p8⟩ := M.pvB_true.1 h2
        obtain ⟨n1, n2⟩ := hn
        go_wp2_with (go_at_call 20; refine (l1In_yes _ _ _ _ n1 n2).mono ?_; rintro e w' ⟨rfl, rfl⟩)
        obtain ⟨wl, rfl⟩ : ∃ wl : World, wl = wb := ⟨_, rfl⟩
        go_loopw [7, 8] (fun v i wr => ∃ k : Nat, i = .int .i64 k ∧ (k : Int) ≤ n + 1 ∧ OwnsP wr (w.heap.size + 2) v (M.line a b c d n k) ∧ Below (w.heap.size + 2) wl wr) (fun _ i _ => (n + 1 - intOf i).toNat)
        case atStart => exact ⟨0, rfl, by omega, ho, Below.refl _ _⟩
        case round =>
          obtain ⟨k, rfl, hk, hown, hbr⟩ := hrel
          have hsr := hbr.size
          by_cases hlt : (k : Int) ≤ n
          · obtain ⟨⟨x1, x2⟩, ⟨x3, x4⟩, ⟨x5, x6⟩⟩ := lc_bd (a := a) (c := c) (n := n) (k := k) ⟨p1, p2⟩ ⟨p5, p6⟩ ⟨n1, n2⟩ ⟨by omega, hlt⟩
            obtain ⟨⟨y1, y2⟩, ⟨y3, y4⟩, ⟨y5, y6⟩⟩ := lc_bd (a := b) (c := d) (n := n) (k := k) ⟨p3, p4⟩ ⟨p7, p8⟩ ⟨n1, n2⟩ ⟨by omega, hlt⟩
            unfold M.lc at x5 x6 y5 y6
            have e1 : IntKind.i64.wrap (c - a) = c - a := IntWalk.i64_in _ (by omega)
            have e2 : IntKind.i64.wrap (d - b) = d - b := IntWalk.i64_in _ (by omega)
            have e3 : IntKind.i64.wrap ((k : Int) * (c - a)) = (k : Int) * (c - a) := IntWalk.i64_in _ (by omega)
            have e4 : IntKind.i64.wrap ((k : Int) * (d - b)) = (k : Int) * (d - b) := IntWalk.i64_in _ (by omega)
            have e5 : IntKind.i64.wrap (a + (k : Int) * (c - a) / n) = a + (k : Int) * (c - a) / n := IntWalk.i64_in _ (by omega)
            have e6 : IntKind.i64.wrap (b + (k : Int) * (d - b) / n) = b + (k : Int) * (d - b) / n := IntWalk.i64_in _ (by omega)
            have s5 := s.below hbr (by omega)
            replace s := Lib.hid s
            obtain ⟨⟨s1, s2⟩, ⟨s3, s4⟩⟩ := s5
            have hlen : (M.line a b c d n k).length = k := M.line_len _ _ _ _ _ _
            replace hlen := Lib.hid hlen
            go_wp2_with fail
            have hownA := hown.drewAlloc
            have hown := hown.drew
            have hbr : Below (w.heap.size + 2) wl wr.drew := hbr.drew
            have hsr : wl.heap.size ≤ wr.drew.heap.size := hsr
            have s0 : (wr.drew.cell? ⟨w.heap.size, 0, none⟩ = some (.int .i64 a) ∧ wr.drew.cell? ⟨w.heap.size, 1, none⟩ = some (.int .i64 b)) ∧ (wr.drew.cell? ⟨w.heap.size + 1, 0, none⟩ = some (.int .i64 c) ∧ wr.drew.cell? ⟨w.heap.size + 1, 1, none⟩ = some (.int .i64 d)) := ⟨⟨s1, s2⟩, ⟨s3, s4⟩⟩
            have m1 : wr.heap.size ≠ w.heap.size := by have : wl.heap.size ≤ wr.heap.size := hsr; omega
            have m2 : wr.heap.size ≠ w.heap.size + 1 := by have : wl.heap.size ≤ wr.heap.size := hsr; omega
            have m3 : w.heap.size ≠ wr.heap.size := by omega
            have m4 : w.heap.size + 1 ≠ wr.heap.size := by omega
            have hs9 : w.heap.size + 2 ≤ wr.drew.heap.size := by omega
            go_region_held3 (fun w' => (w'.cell? ⟨w.heap.size, 0, none⟩ = some (.int .i64 a) ∧ w'.cell? ⟨w.heap.size, 1, none⟩ = some (.int .i64 b)) ∧ (w'.cell? ⟨w.heap.size + 1, 0, none⟩ = some (.int .i64 c) ∧ w'.cell? ⟨w.heap.size + 1, 1, none⟩ = some (.int .i64 d))) (first | (with_reducible assumption) | go_keep) (first | (go_at_call 21; refine (l1_floor _ _ _ (by omega) (by omega) (by omega) (by omega)).mono ?_; rintro e w' ⟨rfl, rfl⟩) | (rw [if_pos (by rfl)]; refine wp_append_own _ _ _ 24 rfl (w.heap.size + 2) 26 i0 (.agg #[.int .i64 0, .int .i64 0]) 2 16 Try.underlying24 hi hz0 hz1 hz2 rfl (by decide) _ _ _ rfl (hownA _) ⟨wr.heap.size, 0, none⟩ 1 1 [.int .i64 (a + (k : Int) * (c - a) / n), .int .i64 (b + (k : Int) * (d - b) / n)] rfl rfl (two_new _ _ _ _) (two_one _ _) (by rw [hlen.out]; unfold maxLen; omega) (by rw [hlen.out]; omega) (by simp; omega) ?_; intro v' w9 hown' hgrow _; have hp := Lib.hid (hown.push hbr hs9 hown' hgrow); have s9 := Lib.hid (s.out.below hp.out.2 (by omega)); obtain ⟨⟨z1, z2⟩, ⟨z3, z4⟩⟩ := s9.out; have s10 := And.intro (And.intro z1 z2) (And.intro z3 z4)))
            all_goals
              go_wp2_with fail
              go_roundw
              case rel => exact ⟨k + 1, by go_num, by omega, by rw [M.line_succ]; exact hp.out.1, hp.out.2⟩
              case measure => simp [intOf]; omega
          · have hkn : k = (n + 1).toNat := by omega
            subst hkn
            have hfin := hown.base (B' := w.heap.size) (by omega)
            rw [← e0.out] at hfin
            replace hfin := Lib.hid hfin
            clear hown
            go_wp2
            go_ret
            exact ⟨_, rfl, hfin.out, hq.out.trans (hbr.mono (by omega))⟩
      · have e0 := Lib.hid (M.lpts_no (a := a) (b := b) (c := c) (d := d) (n := n) (fun h => hn h.2))
        have hn2 : n < 1 ∨ 400 < n := by omega
        go_wp2_with (go_at_call 20; refine (l1In_no _ _ _ _ hn2).mono ?_; rintro e w' ⟨rfl, rfl⟩)
        go_ret
        exact ⟨_, rfl, by rw [e0.out]; exact ho.base (by omega), hq.out⟩
set_option maxHeartbeats 4000000 in
theorem impl_line (a b c d n : Int) (w : World) :
    Calls Try.prog 9 #[.agg #[.int .i64 a, .int .i64 b], .agg #[.int .i64 c, .int .i64 d], .int .i64 n] w (PtsOut w (M.lpts a b c d n)) := by
  obtain ⟨i0, hi, hz0, hz1, hz2⟩ := info_parts infoPt
  have B0 := ((Box.new w a b 26).alloc (.cells #[.int .i64 c, .int .i64 d] 26)).alloc (.cells #[.int .i64 a, .int .i64 b, .int .i64 c, .int .i64 d] 26)
  have B1 := (Box.new (w.alloc (.cells #[.int .i64 a, .int .i64 b] 26)) c d 26).alloc (.cells #[.int .i64 a, .int .i64 b, .int .i64 c, .int .i64 d] 26)
  rw [World.size_alloc] at B1
  have s : Two (((w.alloc (.cells #[.int .i64 a, .int .i64 b] 26)).alloc (.cells #[.int .i64 c, .int .i64 d] 26)).alloc (.cells #[.int .i64 a, .int .i64 b, .int .i64 c, .int .i64 d] 26)) w.heap.size a b c d := ⟨⟨B0.1, B0.2.1⟩, ⟨B1.1, B1.2.1⟩⟩
  have hq := Lib.hid (bel_alloc (bel_alloc (bel_alloc (Below.refl _ w) (.cells #[.int .i64 a, .int .i64 b] 26)) (.cells #[.int .i64 c, .int .i64 d] 26)) (.cells #[.int .i64 a, .int .i64 b, .int .i64 c, .int .i64 d] 26))
  have hs0 : w.heap.size + 2 < (((w.alloc (.cells #[.int .i64 a, .int .i64 b] 26)).alloc (.cells #[.int .i64 c, .int .i64 d] 26)).alloc (.cells #[.int .i64 a, .int .i64 b, .int .i64 c, .int .i64 d] 26)).heap.size := by simp
  clear B0 B1
  go_enter Try.func9, Try.ntmps9
  go_wp2_with fail
  refine (all_points _ 2 _ (pxs a c) (pxs b d) _ (by omega) (by simp) (by have := at2 (w := (w.alloc (.cells #[.int .i64 a, .int .i64 b] 26)).alloc (.cells #[.int .i64 c, .int .i64 d] 26)) a b c d 26; simpa using this)).mono ?_
  rintro e wa ⟨rfl, g⟩
  have s := s.below g (by simp)
  have hq := Lib.hid (bel_trans hq.out (Lib.hid g))
  have hsa := g.size
  have hs0 : w.heap.size + 2 < wa.heap.size := by omega
  clear g hsa
  rw [M.allB2]
  cases h1 : M.pvB a b
  · have e0 := Lib.hid (M.lpts_no (a := a) (b := b) (c := c) (d := d) (n := n) (fun h => by rw [h.1.1] at h1; cases h1))
    go_wp2_with fail
    go_ret
    exact ⟨_, rfl, by rw [e0.out]; exact OwnsP.nil _ _, hq.out⟩
  · cases h2 : M.pvB c d
    · have e0 := Lib.hid (M.lpts_no (a := a) (b := b) (c := c) (d := d) (n := n) (fun h => by rw [h.1.2] at h2; cases h2))
      go_wp2_with fail
      go_ret
      exact ⟨_, rfl, by rw [e0.out]; exact OwnsP.nil _ _, hq.out⟩
    · by_cases hn : 1 ≤ n ∧ n ≤ 400
      · have e0 := Lib.hid (M.lpts_yes (a := a) (b := b) (c := c) (d := d) (n := n) ⟨⟨h1, h2⟩, hn⟩)
        obtain ⟨p1, p2, p3, p4⟩ := M.pvB_true.1 h1
        obtain ⟨p5, p6, p7, p8⟩ := M.pvB_true.1 h2
        obtain ⟨n1, n2⟩ := hn
        go_wp2_with (go_at_call 23; refine (within_yes _ _ _ _ n1 n2).mono ?_; rintro e w' ⟨rfl, rfl⟩)
        obtain ⟨wl, rfl⟩ : ∃ wl : World, wl = wa := ⟨_, rfl⟩
        go_loopw [7, 8, 21] (fun v _ i wr => ∃ k : Nat, i = .int .i64 k ∧ (k : Int) ≤ n + 1 ∧ OwnsP wr (w.heap.size + 2) v (M.line a b c d n k) ∧ Below (w.heap.size + 2) wl wr) (fun _ _ i _ => (n + 1 - intOf i).toNat)
        case atStart => exact ⟨0, rfl, by omega, OwnsP.nil _ _, Below.refl _ _⟩
        case round =>
          obtain ⟨k, rfl, hk, hown, hbr⟩ := hrel
          have hsr := hbr.size
          by_cases hlt : (k : Int) ≤ n
          · obtain ⟨⟨x1, x2⟩, ⟨x3, x4⟩, ⟨x5, x6⟩⟩ := lc_bd (a := a) (c := c) (n := n) (k := k) ⟨p1, p2⟩ ⟨p5, p6⟩ ⟨n1, n2⟩ ⟨by omega, hlt⟩
            obtain ⟨⟨y1, y2⟩, ⟨y3, y4⟩, ⟨y5, y6⟩⟩ := lc_bd (a := b) (c := d) (n := n) (k := k) ⟨p3, p4⟩ ⟨p7, p8⟩ ⟨n1, n2⟩ ⟨by omega, hlt⟩
            unfold M.lc at x5 x6 y5 y6
            have e1 : IntKind.i64.wrap (c - a) = c - a := IntWalk.i64_in _ (by omega)
            have e2 : IntKind.i64.wrap (d - b) = d - b := IntWalk.i64_in _ (by omega)
            have e3 : IntKind.i64.wrap ((k : Int) * (c - a)) = (k : Int) * (c - a) := IntWalk.i64_in _ (by omega)
            have e4 : IntKind.i64.wrap ((k : Int) * (d - b)) = (k : Int) * (d - b) := IntWalk.i64_in _ (by omega)
            have e5 : IntKind.i64.wrap (a + (k : Int) * (c - a) / n) = a + (k : Int) * (c - a) / n := IntWalk.i64_in _ (by omega)
            have e6 : IntKind.i64.wrap (b + (k : Int) * (d - b) / n) = b + (k : Int) * (d - b) / n := IntWalk.i64_in _ (by omega)
            have s5 := s.below hbr (by omega)
            replace s := Lib.hid s
            obtain ⟨⟨s1, s2⟩, ⟨s3, s4⟩⟩ := s5
            have hlen : (M.line a b c d n k).length = k := M.line_len _ _ _ _ _ _
            replace hlen := Lib.hid hlen
            go_wp2_with fail
            have hownA := hown.drewAlloc
            have hown := hown.drew
            have hbr : Below (w.heap.size + 2) wl wr.drew := hbr.drew
            have hsr : wl.heap.size ≤ wr.drew.heap.size := hsr
            have s0 : (wr.drew.cell? ⟨w.heap.size, 0, none⟩ = some (.int .i64 a) ∧ wr.drew.cell? ⟨w.heap.size, 1, none⟩ = some (.int .i64 b)) ∧ (wr.drew.cell? ⟨w.heap.size + 1, 0, none⟩ = some (.int .i64 c) ∧ wr.drew.cell? ⟨w.heap.size + 1, 1, none⟩ = some (.int .i64 d)) := ⟨⟨s1, s2⟩, ⟨s3, s4⟩⟩
            have m1 : wr.heap.size ≠ w.heap.size := by have : wl.heap.size ≤ wr.heap.size := hsr; omega
            have m2 : wr.heap.size ≠ w.heap.size + 1 := by have : wl.heap.size ≤ wr.heap.size := hsr; omega
            have m3 : w.heap.size ≠ wr.heap.size := by omega
            have m4 : w.heap.size + 1 ≠ wr.heap.size := by omega
            have hs9 : w.heap.size + 2 ≤ wr.drew.heap.size := by omega
            go_region_held3 (fun w' => (w'.cell? ⟨w.heap.size, 0, none⟩ = some (.int .i64 a) ∧ w'.cell? ⟨w.heap.size, 1, none⟩ = some (.int .i64 b)) ∧ (w'.cell? ⟨w.heap.size + 1, 0, none⟩ = some (.int .i64 c) ∧ w'.cell? ⟨w.heap.size + 1, 1, none⟩ = some (.int .i64 d))) (first | (with_reducible assumption) | go_keep) (first | (go_at_call 24; refine (impl_floor _ _ _ (by omega) (by omega) (by omega) (by omega)).mono ?_; rintro e w' ⟨rfl, rfl⟩) | (rw [if_pos (by rfl)]; refine wp_append_own _ _ _ 24 rfl (w.heap.size + 2) 26 i0 (.agg #[.int .i64 0, .int .i64 0]) 2 16 Try.underlying24 hi hz0 hz1 hz2 rfl (by decide) _ _ _ rfl (hownA _) ⟨wr.heap.size, 0, none⟩ 1 1 [.int .i64 (a + (k : Int) * (c - a) / n), .int .i64 (b + (k : Int) * (d - b) / n)] rfl rfl (two_new _ _ _ _) (two_one _ _) (by rw [hlen.out]; unfold maxLen; omega) (by rw [hlen.out]; omega) (by simp; omega) ?_; intro v' w9 hown' hgrow _; have hp := Lib.hid (hown.push hbr hs9 hown' hgrow); have s9 := Lib.hid (s.out.below hp.out.2 (by omega)); obtain ⟨⟨z1, z2⟩, ⟨z3, z4⟩⟩ := s9.out; have s10 := And.intro (And.intro z1 z2) (And.intro z3 z4)))
            all_goals
              go_wp2_with fail
              go_roundw
              case rel => exact ⟨k + 1, by go_num, by omega, by rw [M.line_succ]; exact hp.out.1, hp.out.2⟩
              case measure => simp [intOf]; omega
          · have hkn : k = (n + 1).toNat := by omega
            subst hkn
            have hfin := hown.base (B' := w.heap.size) (by omega)
            rw [← e0.out] at hfin
            replace hfin := Lib.hid hfin
            clear hown
            go_wp2
            go_ret
            exact ⟨_, rfl, hfin.out, hq.out.trans (hbr.mono (by omega))⟩
      · have e0 := Lib.hid (M.lpts_no (a := a) (b := b) (c := c) (d := d) (n := n) (fun h => hn h.2))
        have hn2 : n < 1 ∨ 400 < n := by omega
        go_wp2_with (go_at_call 23; refine (within_no _ _ _ _ hn2).mono ?_; rintro e w' ⟨rfl, rfl⟩)
        go_ret
        exact ⟨_, rfl, by rw [e0.out]; exact OwnsP.nil _ _, hq.out⟩
end Go.Proofs.Ytmnpengjklghlaa
