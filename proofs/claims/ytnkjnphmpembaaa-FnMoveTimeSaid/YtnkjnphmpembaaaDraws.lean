/- Contracts of the draws of arms, of arms with joint angles, and of moves. -/
import Derived.Test.YtnkjnphmpembaaaDrawJoints
import Derived.Test.YtnkjnphmpembaaaDrawProf
namespace Go.Proofs.Ytnkjnphmpembaaa
open Go.ChangeShapes Go.WideShapes Go.ChangeAt Go.RowKit
set_option linter.unusedVariables false
theorem beside_drew (R : Nat) (w : World) : Beside R w w.drew := ⟨rfl, rfl, rfl, Nat.le_refl _, fun _ _ _ => rfl⟩
theorem bel_beside {w a b : World} {R : Nat} (h : Below w.heap.size w a) (k : Beside R a b) (hR : w.heap.size ≤ R) : Below w.heap.size w b := h.trans (k.below hR h.size)
/-- three cells of the result are written -/
theorem res_fin {w W : World} {S B n1 c1 n2 c2 n3 c3 : Nat} {a1 a2 a3 : Option Addr} {l lo hi : List Int} {z1 z2 z3 : Value} (k : Cell3 W S z1 z2 z3) (hf : ArmFacts W B a1 n1 c1 a2 n2 c2 a3 n3 c3 l lo hi) (hS : S < B) (hb : Below w.heap.size w W) (hw : w.heap.size ≤ S) :
    ∃ wf, wf = ((W.setCell ⟨S, 0, none⟩ (.slice a1 n1 c1)).setCell ⟨S, 1, none⟩ (.slice a2 n2 c2)).setCell ⟨S, 2, none⟩ (.slice a3 n3 c3) ∧ Cell3 wf S (.slice a1 n1 c1) (.slice a2 n2 c2) (.slice a3 n3 c3) ∧ ArmFacts wf B a1 n1 c1 a2 n2 c2 a3 n3 c3 l lo hi ∧ Below w.heap.size w wf ∧ (∀ B' a J, S < B' → Span W B' a J → Span wf B' a J) :=
  ⟨_, rfl, ((k.put0 _).put1 _).put2 _, hf.keptBy (grown3 W S _ _ _) (fun i hi => by omega), ((hb.setCell (p := ⟨S, 0, none⟩) hw _).setCell (p := ⟨S, 1, none⟩) hw _).setCell (p := ⟨S, 2, none⟩) hw _, fun B' a J hB' h => h.keptBy (grown3 W S _ _ _) (fun i hi => by omega)⟩
def DrewArm (w : World) (e : Ending) (w' : World) : Prop := ∃ a1 n1 c1 a2 n2 c2 a3 n3 c3 l lo hi, e = .returned (.agg #[.slice a1 n1 c1, .slice a2 n2 c2, .slice a3 n3 c3]) ∧ ArmFacts w' w.heap.size a1 n1 c1 a2 n2 c2 a3 n3 c3 l lo hi ∧ Below w.heap.size w w'
/-- some angles, in the call's own memory -/
structure JFacts (w : World) (B : Nat) (a : Option Addr) (n : Nat) (J : List Int) : Prop where
  len : J.length = n
  le : n ≤ 6
  bd : ∀ x ∈ J, -1000 ≤ x ∧ x ≤ 1000
  s : Span w B a J
def DrewAJ (w : World) (e : Ending) (w' : World) : Prop := ∃ a1 n1 c1 a2 n2 c2 a3 n3 c3 l lo hi aj nj cj J, e = .returned (.tuple #[.agg #[.slice a1 n1 c1, .slice a2 n2 c2, .slice a3 n3 c3], .slice aj nj cj]) ∧ ArmFacts w' w.heap.size a1 n1 c1 a2 n2 c2 a3 n3 c3 l lo hi ∧ JFacts w' w.heap.size aj nj J ∧ Below w.heap.size w w'
set_option maxHeartbeats 2000000 in
theorem draw_ArmValid (a : Option Addr) (len cap : Nat) (zs : List Int) (w : World) (h : IsRow .u8 w a len cap zs) :
    Calls Try.prog 13 #[.slice a len cap] w (DrewArm w) := by
  have kr := Cell3.new w (.slice none 0 0) (.slice none 0 0) (.slice none 0 0) 25
  have bb := Lib.hid (bel_new w (.cells #[.slice none 0 0, .slice none 0 0, .slice none 0 0] 25))
  have hsz : w.heap.size < (w.alloc (.cells #[.slice none 0 0, .slice none 0 0, .slice none 0 0] 25)).heap.size := by simp
  have hrow := Lib.hid (h.below bb.out)
  go_enter Try.func13, Try.ntmps13
  go_wp2_with fail
  generalize w.alloc (.cells #[.slice none 0 0, .slice none 0 0, .slice none 0 0] 25) = w0 at *
  refine (open_any a len cap zs _ hrow.out).mono ?_
  rintro e w1 ⟨R, rfl, hR, rd, q⟩
  replace kr := kr.after q
  replace bb := Lib.hid (bel_after bb.out q)
  have hS : w.heap.size ≠ R := by omega
  have hRw : w.heap.size ≤ R := by omega
  clear q hrow
  go_wp2_with fail
  refine (pick_any R _ _ _ rd (by omega) (by omega) (by omega)).mono ?_
  rintro e w2 ⟨mn, p1, p2, rfl, r2, b2⟩
  replace kr := kr.beside b2 hS
  replace bb := Lib.hid (bel_beside bb.out b2 hRw)
  clear rd b2
  go_wp2_with fail
  refine (l20_arm R _ (1 + mn) _ _ r2 (by omega) (by omega) (by omega) (by omega) (by omega)).mono ?_
  rintro e w3 ⟨a1, n1, c1, a2, n2, c2, a3, n3, c3, l, lo, hi, rfl, hf, r3, b3⟩
  have hl2 := kr.lt
  replace kr := kr.beside b3 hS
  replace bb := Lib.hid (bel_beside bb.out b3 hRw)
  replace hf := Lib.hid hf
  have hl3 := b3.size
  have hR2 := r2.lt
  clear r2 b3
  obtain ⟨v0, v1, v2, v3, v4, v5⟩ := id kr
  obtain ⟨wf, hwf, kf, hff, bf, sf⟩ := res_fin kr hf.out (by omega) bb.out (Nat.le_refl _)
  replace hwf := Lib.hid hwf.symm
  obtain ⟨u0, u1, u2, u3, u4, u5⟩ := kf
  go_wp2_with fail
  rw [hwf.out]
  exact bodyPost_ret (v := .agg #[.slice a1 n1 c1, .slice a2 n2 c2, .slice a3 n3 c3]) (by simp [results, Try.results13, go_sem, u0, u1, u2]) rfl ⟨a1, n1, c1, a2, n2, c2, a3, n3, c3, l, lo, hi, rfl, hff.base (by omega), bf⟩
set_option maxHeartbeats 2000000 in
theorem draw_ReachOf (a : Option Addr) (len cap : Nat) (zs : List Int) (w : World) (h : IsRow .u8 w a len cap zs) :
    Calls Try.prog 26 #[.slice a len cap] w (DrewArm w) := by
  have kr := Cell3.new w (.slice none 0 0) (.slice none 0 0) (.slice none 0 0) 25
  have bb := Lib.hid (bel_new w (.cells #[.slice none 0 0, .slice none 0 0, .slice none 0 0] 25))
  have hsz : w.heap.size < (w.alloc (.cells #[.slice none 0 0, .slice none 0 0, .slice none 0 0] 25)).heap.size := by simp
  have hrow := Lib.hid (h.below bb.out)
  go_enter Try.func26, Try.ntmps26
  go_wp2_with fail
  generalize w.alloc (.cells #[.slice none 0 0, .slice none 0 0, .slice none 0 0] 25) = w0 at *
  refine (open_any a len cap zs _ hrow.out).mono ?_
  rintro e w1 ⟨R, rfl, hR, rd, q⟩
  replace kr := kr.after q
  replace bb := Lib.hid (bel_after bb.out q)
  have hS : w.heap.size ≠ R := by omega
  have hRw : w.heap.size ≤ R := by omega
  clear q hrow
  go_wp2_with fail
  refine (pick_any R _ _ _ rd (by omega) (by omega) (by omega)).mono ?_
  rintro e w2 ⟨mn, p1, p2, rfl, r2, b2⟩
  replace kr := kr.beside b2 hS
  replace bb := Lib.hid (bel_beside bb.out b2 hRw)
  clear rd b2
  go_wp2_with fail
  refine (l20_arm R _ (1 + mn) _ _ r2 (by omega) (by omega) (by omega) (by omega) (by omega)).mono ?_
  rintro e w3 ⟨a1, n1, c1, a2, n2, c2, a3, n3, c3, l, lo, hi, rfl, hf, r3, b3⟩
  have hl2 := kr.lt
  replace kr := kr.beside b3 hS
  replace bb := Lib.hid (bel_beside bb.out b3 hRw)
  replace hf := Lib.hid hf
  have hl3 := b3.size
  have hR2 := r2.lt
  clear r2 b3
  obtain ⟨v0, v1, v2, v3, v4, v5⟩ := id kr
  obtain ⟨wf, hwf, kf, hff, bf, sf⟩ := res_fin kr hf.out (by omega) bb.out (Nat.le_refl _)
  replace hwf := Lib.hid hwf.symm
  obtain ⟨u0, u1, u2, u3, u4, u5⟩ := kf
  go_wp2_with fail
  rw [hwf.out]
  exact bodyPost_ret (v := .agg #[.slice a1 n1 c1, .slice a2 n2 c2, .slice a3 n3 c3]) (by simp [results, Try.results26, go_sem, u0, u1, u2]) rfl ⟨a1, n1, c1, a2, n2, c2, a3, n3, c3, l, lo, hi, rfl, hff.base (by omega), bf⟩
set_option maxHeartbeats 4000000 in
theorem draw_JointsValid (a : Option Addr) (len cap : Nat) (zs : List Int) (w : World) (h : IsRow .u8 w a len cap zs) :
    Calls Try.prog 28 #[.slice a len cap] w (DrewAJ w) := by
  have kr := Cell3.new w (.slice none 0 0) (.slice none 0 0) (.slice none 0 0) 25
  have bb := Lib.hid (bel_new w (.cells #[.slice none 0 0, .slice none 0 0, .slice none 0 0] 25))
  have hsz : w.heap.size < (w.alloc (.cells #[.slice none 0 0, .slice none 0 0, .slice none 0 0] 25)).heap.size := by simp
  have hrow := Lib.hid (h.below bb.out)
  go_enter Try.func28, Try.ntmps28
  go_wp2_with fail
  generalize w.alloc (.cells #[.slice none 0 0, .slice none 0 0, .slice none 0 0] 25) = w0 at *
  refine (open_any a len cap zs _ hrow.out).mono ?_
  rintro e w1 ⟨R, rfl, hR, rd, q⟩
  replace kr := kr.after q
  replace bb := Lib.hid (bel_after bb.out q)
  have hS : w.heap.size ≠ R := by omega
  have hRw : w.heap.size ≤ R := by omega
  clear q hrow
  go_wp2_with fail
  refine (pick_any R _ _ _ rd (by omega) (by omega) (by omega)).mono ?_
  rintro e w2 ⟨mn, p1, p2, rfl, r2, b2⟩
  replace kr := kr.beside b2 hS
  replace bb := Lib.hid (bel_beside bb.out b2 hRw)
  clear rd b2
  go_wp2_with fail
  refine (l20_arm R _ (1 + mn) _ _ r2 (by omega) (by omega) (by omega) (by omega) (by omega)).mono ?_
  rintro e w3 ⟨a1, n1, c1, a2, n2, c2, a3, n3, c3, l, lo, hi, rfl, hf, r3, b3⟩
  have hl2 := kr.lt
  replace kr := kr.beside b3 hS
  replace bb := Lib.hid (bel_beside bb.out b3 hRw)
  replace hf := Lib.hid hf
  have hl3 := b3.size
  have hR2 := r2.lt
  clear r2 b3
  go_wp2_with fail
  have kb := Cell3.new w3 (.slice a1 n1 c1) (.slice a2 n2 c2) (.slice a3 n3 c3) 25
  have hsB : w3.heap.size < (w3.alloc (.cells #[.slice a1 n1 c1, .slice a2 n2 c2, .slice a3 n3 c3] 25)).heap.size := by simp
  have hK4 := Lib.hid (World.size_alloc w3 (.cells #[.slice a1 n1 c1, .slice a2 n2 c2, .slice a3 n3 c3] 25))
  replace kr := kr.after (bel_new w3 (.cells #[.slice a1 n1 c1, .slice a2 n2 c2, .slice a3 n3 c3] 25))
  replace bb := Lib.hid (bel_after bb.out (bel_new w3 (.cells #[.slice a1 n1 c1, .slice a2 n2 c2, .slice a3 n3 c3] 25)))
  replace hf := Lib.hid (hf.out.after (bel_new w3 (.cells #[.slice a1 n1 c1, .slice a2 n2 c2, .slice a3 n3 c3] 25)))
  replace r3 := r3.alloc (.cells #[.slice a1 n1 c1, .slice a2 n2 c2, .slice a3 n3 c3] 25)
  generalize hK : w3.heap.size = K at kb ⊢ hl3 hsB hK4
  generalize w3.alloc (.cells #[.slice a1 n1 c1, .slice a2 n2 c2, .slice a3 n3 c3] 25) = w4 at *
  have hKR : K ≠ R := by omega
  have hKS : K ≠ w.heap.size := by omega
  have hSK : w.heap.size ≠ K := by omega
  clear hK
  have rd4 : Rd w4.drew R _ := r3.drewN 1
  have kb4 := kb.drew
  have kr4 := kr.drew
  have hd4 := Lib.hid (hf.out.draw.beside (beside_drew R w4) (by omega))
  have hf4 := Lib.hid (hf.out.beside (beside_drew R w4) (by omega))
  have bb4 := Lib.hid (bb.out.drew)
  have s := And.intro kb4.c0 (And.intro kb4.c1 kb4.c2)
  obtain ⟨y0, y1, y2, y3, y4, y5⟩ := id kb
  obtain ⟨v0, v1, v2, v3, v4, v5⟩ := id kr
  go_region_held3 (fun w' => (w'.cell? ⟨K, 0, none⟩ = some (.slice a1 n1 c1) ∧ w'.cell? ⟨K, 1, none⟩ = some (.slice a2 n2 c2) ∧ w'.cell? ⟨K, 2, none⟩ = some (.slice a3 n3 c3))) (first | (with_reducible assumption) | go_keep) (first | (go_at_call 47; (with_reducible refine (l20_joints R _ w2.heap.size a1 a2 a3 n1 c1 n2 c2 n3 c3 l lo hi _ _ rd4 (by omega) (by omega) (by omega) (by omega) hd4.out).mono ?_); rintro e w5 ⟨aj, nj, cj, J, rfl, ⟨hj1, hj2⟩, hj3, hj4, r5, b5⟩; have kb5 := kb4.beside b5 hKR; have kr5 := kr4.beside b5 hS; have hf5 := Lib.hid (hf4.out.beside b5 (by omega)); have bb5 := Lib.hid (bel_beside bb4.out b5 hRw); obtain ⟨t0, t1, t2, t3, t4, t5⟩ := id kb5; obtain ⟨w6_0, w6_1, w6_2, w6_3, w6_4, w6_5⟩ := id kr5; have s := And.intro t0 (And.intro t1 t2); obtain ⟨wf, hwf, kf, hff, bf, sf⟩ := res_fin kr5 hf5.out (by omega) bb5.out (Nat.le_refl _); have hjs := Lib.hid (sf w4.heap.size aj J (by omega) hj4); replace hwf := Lib.hid hwf.symm; replace hj1 := Lib.hid hj1; replace hj3 := Lib.hid hj3; obtain ⟨u0, u1, u2, u3, u4, u5⟩ := kf))
  all_goals
    go_wp2_with fail
    rw [hwf.out]
    exact bodyPost_ret (v := .tuple #[.agg #[.slice a1 n1 c1, .slice a2 n2 c2, .slice a3 n3 c3], .slice aj nj cj]) (by simp [results, Try.results28, go_sem, u0, u1, u2]) rfl ⟨a1, n1, c1, a2, n2, c2, a3, n3, c3, l, lo, hi, aj, nj, cj, J, rfl, hff.base (by omega), ⟨hj1.out, by omega, hj3.out, hjs.out.base (by omega)⟩, bf⟩
set_option maxHeartbeats 4000000 in
theorem draw_ClampJoints (a : Option Addr) (len cap : Nat) (zs : List Int) (w : World) (h : IsRow .u8 w a len cap zs) :
    Calls Try.prog 34 #[.slice a len cap] w (DrewAJ w) := by
  obtain ⟨i0, hi0, hz0, hz1, hz2⟩ := info_parts infoInt
  have kr := Cell3.new w (.slice none 0 0) (.slice none 0 0) (.slice none 0 0) 25
  have bb := Lib.hid (bel_new w (.cells #[.slice none 0 0, .slice none 0 0, .slice none 0 0] 25))
  have hsz : w.heap.size < (w.alloc (.cells #[.slice none 0 0, .slice none 0 0, .slice none 0 0] 25)).heap.size := by simp
  have hrow := Lib.hid (h.below bb.out)
  go_enter Try.func34, Try.ntmps34
  go_wp2_with fail
  generalize w.alloc (.cells #[.slice none 0 0, .slice none 0 0, .slice none 0 0] 25) = w0 at *
  refine (open_any a len cap zs _ hrow.out).mono ?_
  rintro e w1 ⟨R, rfl, hR, rd, q⟩
  replace kr := kr.after q
  replace bb := Lib.hid (bel_after bb.out q)
  have hS : w.heap.size ≠ R := by omega
  have hRw : w.heap.size ≤ R := by omega
  clear q hrow
  go_wp2_with fail
  refine (pick_any R _ _ _ rd (by omega) (by omega) (by omega)).mono ?_
  rintro e w2 ⟨mn, p1, p2, rfl, r2, b2⟩
  replace kr := kr.beside b2 hS
  replace bb := Lib.hid (bel_beside bb.out b2 hRw)
  clear rd b2
  go_wp2_with fail
  refine (l20_arm R _ (1 + mn) _ _ r2 (by omega) (by omega) (by omega) (by omega) (by omega)).mono ?_
  rintro e w3 ⟨a1, n1, c1, a2, n2, c2, a3, n3, c3, l, lo, hi, rfl, hf, r3, b3⟩
  have hl2 := kr.lt
  replace kr := kr.beside b3 hS
  replace bb := Lib.hid (bel_beside bb.out b3 hRw)
  replace hf := Lib.hid hf
  have hl3 := b3.size
  have hR2 := r2.lt
  clear r2 b3
  obtain ⟨v0, v1, v2, v3, v4, v5⟩ := id kr
  go_wp2_with fail
  clear v0 v1 v2 v3 v4 v5
  have kb := Cell3.new w3 (.slice a1 n1 c1) (.slice a2 n2 c2) (.slice a3 n3 c3) 25
  have hsB : w3.heap.size < (w3.alloc (.cells #[.slice a1 n1 c1, .slice a2 n2 c2, .slice a3 n3 c3] 25)).heap.size := by simp
  have hK4 := Lib.hid (World.size_alloc w3 (.cells #[.slice a1 n1 c1, .slice a2 n2 c2, .slice a3 n3 c3] 25))
  replace kr := kr.after (bel_new w3 (.cells #[.slice a1 n1 c1, .slice a2 n2 c2, .slice a3 n3 c3] 25))
  replace bb := Lib.hid (bel_after bb.out (bel_new w3 (.cells #[.slice a1 n1 c1, .slice a2 n2 c2, .slice a3 n3 c3] 25)))
  replace hf := Lib.hid (hf.out.after (bel_new w3 (.cells #[.slice a1 n1 c1, .slice a2 n2 c2, .slice a3 n3 c3] 25)))
  replace r3 := r3.alloc (.cells #[.slice a1 n1 c1, .slice a2 n2 c2, .slice a3 n3 c3] 25)
  generalize hK : w3.heap.size = K at kb ⊢ hl3 hsB hK4
  generalize w3.alloc (.cells #[.slice a1 n1 c1, .slice a2 n2 c2, .slice a3 n3 c3] 25) = w4 at *
  have hKR : K ≠ R := by omega
  have hKS : K ≠ w.heap.size := by omega
  have hSK : w.heap.size ≠ K := by omega
  clear hK
  have om := Lib.hid (Owns.made (w := w4) (Nat.le_refl _))
  rw [hK4.out] at om
  have hl4 : w4.heap.size = K + 1 := hK4.out
  replace hl4 := Lib.hid hl4
  have hv1 : K + 1 < (w4.alloc (.cells #[] 3)).heap.size := by rw [World.size_alloc, hK4.out]; omega
  have hb4 := Lib.hid ((Beside.refl R w4).alloc (.cells #[] 3))
  have hrd := Lib.hid (r3.alloc (.cells #[] 3))
  generalize w4.alloc (.cells #[] 3) = v0 at *
  have hR4 : R < K + 1 := by have := r3.lt; rw [hl4.out] at this; exact this
  go_loopw [6, 7] (fun v i wr => ∃ (k : Nat) (J : List Int), i = .int .i64 k ∧ k ≤ n1 + 1 ∧ J.length = k ∧ Hid (Owns wr (K + 1) v J) ∧ Hid (∀ x ∈ J, -1000 ≤ x ∧ x ≤ 1000) ∧ Hid (Rd wr R (31 + 2 * k)) ∧ Hid (Beside R w4 wr) ∧ K + 1 < wr.heap.size) (fun _ i _ => n1 + 2 - (intOf i).toNat)
  case atStart => exact ⟨0, [], rfl, Nat.zero_le _, rfl, om, (by intro x hx; cases hx), hrd, hb4, hv1⟩
  case round =>
    obtain ⟨k, J, rfl, hk, hlen, ho, hbd, hrd, hbb, hsz4⟩ := hrel
    have hn5 := hf.out.le.1
    replace hlen := Lib.hid hlen
    have kb5 := kb.beside hbb.out hKR
    obtain ⟨y0, y1, y2, y3, y4, y5⟩ := id kb5
    go_wp2_with fail
    have rd5 : Rd wr.drew R (31 + 2 * k) := hrd.out.drewN 1
    have hbd5 := Lib.hid (hbb.out.trans (beside_drew R wr))
    have ho5 := Lib.hid (ho.out.beside2 (beside_drew R wr) hR4)
    have s : wr.drew.cell? ⟨K, 0, none⟩ = some (.slice a1 n1 c1) := y0
    go_region_held3 (fun w' => w'.cell? ⟨K, 0, none⟩ = some (.slice a1 n1 c1)) (first | (with_reducible assumption) | go_keep) (first | (go_at_call 41; (with_reducible refine (pick_any R (31 + 2 * k) _ _ rd5 (by omega) (by omega) (by omega)).mono ?_); rintro e w5 ⟨x, p3, p4, rfl, r5, b5⟩; have hb6 := Lib.hid (hbd5.out.trans b5); have ho6 := Lib.hid (ho5.out.beside2 b5 hR4); have kb6 := kb.beside hb6.out hKR; obtain ⟨t0, t1, t2, t3, t4, t5⟩ := id kb6; have s := t0; have hs5 : K + 1 < w5.heap.size := Nat.lt_of_lt_of_le hsz4 b5.size; have hx : 0 ≤ x / 11 ∧ x / 11 ≤ 1 := (by omega); have ew : IntKind.i64.wrap (x.tdiv 11) = x / 11 := (by rw [Int.tdiv_eq_ediv_of_nonneg p3]; exact IntWalk.i64_in _ (by omega)); have ew2 : IntKind.i64.wrap ((n1 : Int) + x / 11) = (n1 : Int) + x / 11 := IntWalk.i64_in _ (by omega)))
    all_goals
      by_cases hc : (k : Int) < (n1 : Int) + x / 11
      · go_wp2_with fail
        refine (pick_any R (31 + 2 * k + 1) _ _ r5 (by omega) (by omega) (by omega)).mono ?_
        rintro e w6 ⟨x2, p5, p6, rfl, r6, b6⟩
        have hb7 := Lib.hid (hb6.out.trans b6)
        have ho7 := Lib.hid (ho6.out.beside2 b6 hR4)
        have hs6 : K + 1 < w6.heap.size := Nat.lt_of_lt_of_le hs5 b6.size
        clear ho6 ho5 ho hb6 hbd5 hbb b6 b5
        go_wp2_with (at_builtin; refine wpList_append_own _ rfl _ _ 23 rfl (K + 1) 3 i0 (.int .i64 0) 1 8 Try.underlying23 hi0 hz0 hz1 hz2 rfl (by decide) _ _ _ rfl (World.ownsRow.alloc ho7.out _) ⟨w6.heap.size, 0, none⟩ 1 1 [.int .i64 (x2 - 250)] rfl rfl (one_new _ _ _) (one_one _) ?c3 ?c4 ?c5 ?_)
        case c3 => rw [hlen.out]; unfold maxLen; omega
        case c4 => rw [hlen.out]; omega
        case c5 => simp; omega
        intro v' w9 hown' hgrow _
        have hp := Lib.hid (ho7.out.grows hb7.out (by rw [hl4.out]; exact Nat.le_refl _) hR4 r6 hown' hgrow)
        have hs9 : K + 1 < w9.heap.size := by have := hgrow.size; simp at this; omega
        clear hown' hgrow ho7
        go_wp2_with fail
        go_roundw
        case rel => exact ⟨k + 1, J ++ [x2 - 250], by go_num, by omega, by rw [List.length_append, hlen.out]; rfl, hp.out.1, mem_snoc_bd hbd.out ⟨by omega, by omega⟩, hp.out.2.2.mono (by omega), hp.out.2.1, hs9⟩
        case measure => simp [intOf]; omega
      · obtain ⟨aj, cj, rfl, _⟩ := ho6.out.view
        rw [hlen.out] at ho6
        rw [hlen.out]
        have hj := Lib.hid ho6.out.span
        replace kr := kr.beside hb6.out hS
        replace hf := Lib.hid (hf.out.beside hb6.out (by omega))
        replace bb := Lib.hid (bel_beside bb.out hb6.out hRw)
        clear ho6 ho5 ho
        obtain ⟨v0, v1, v2, v3, v4, v5⟩ := id kr
        obtain ⟨wf, hwf, kf, hff, bf, sf⟩ := res_fin kr hf.out (by omega) bb.out (Nat.le_refl _)
        have hjs := Lib.hid (sf (K + 1) aj J (by omega) hj.out)
        replace hwf := Lib.hid hwf.symm
        obtain ⟨u0, u1, u2, u3, u4, u5⟩ := kf
        replace hff := Lib.hid hff
        go_wp2_with fail
        rw [hwf.out]
        exact bodyPost_ret (v := .tuple #[.agg #[.slice a1 n1 c1, .slice a2 n2 c2, .slice a3 n3 c3], .slice aj k cj]) (by simp [results, Try.results34, go_sem, u0, u1, u2]) rfl ⟨a1, n1, c1, a2, n2, c2, a3, n3, c3, l, lo, hi, aj, k, cj, J, rfl, hff.out.base (by omega), ⟨hlen.out, by omega, hbd.out, hjs.out.base (by omega)⟩, bf⟩
def DrewMv (w : World) (e : Ending) (w' : World) : Prop := ∃ a1 n1 c1 a2 n2 c2 a3 n3 c3 l lo hi af nf cf f at_ nt ct t top rise, e = .returned (.tuple #[.agg #[.slice a1 n1 c1, .slice a2 n2 c2, .slice a3 n3 c3], .slice af nf cf, .slice at_ nt ct, .int .i64 top, .int .i64 rise]) ∧ ArmFacts w' w.heap.size a1 n1 c1 a2 n2 c2 a3 n3 c3 l lo hi ∧ JFacts w' w.heap.size af nf f ∧ JFacts w' w.heap.size at_ nt t ∧ ((0 ≤ top ∧ top ≤ 201) ∧ (0 ≤ rise ∧ rise ≤ 51)) ∧ Below w.heap.size w w'
set_option maxHeartbeats 4000000 in
theorem draw_MoveJoints (a : Option Addr) (len cap : Nat) (zs : List Int) (w : World) (h : IsRow .u8 w a len cap zs) :
    Calls Try.prog 56 #[.slice a len cap] w (DrewMv w) := by
  have kr := Cell3.new w (.slice none 0 0) (.slice none 0 0) (.slice none 0 0) 25
  have bb := Lib.hid (bel_new w (.cells #[.slice none 0 0, .slice none 0 0, .slice none 0 0] 25))
  have hsz : w.heap.size < (w.alloc (.cells #[.slice none 0 0, .slice none 0 0, .slice none 0 0] 25)).heap.size := by simp
  have hrow := Lib.hid (h.below bb.out)
  go_enter Try.func56, Try.ntmps56
  go_wp2_with fail
  generalize w.alloc (.cells #[.slice none 0 0, .slice none 0 0, .slice none 0 0] 25) = w0 at *
  refine (open_any a len cap zs _ hrow.out).mono ?_
  rintro e w1 ⟨R, rfl, hR, rd, q⟩
  replace kr := kr.after q
  replace bb := Lib.hid (bel_after bb.out q)
  have hS : w.heap.size ≠ R := by omega
  have hRw : w.heap.size ≤ R := by omega
  clear q hrow
  go_wp2_with fail
  refine (pick_any R _ _ _ rd (by omega) (by omega) (by omega)).mono ?_
  rintro e w2 ⟨mn, p1, p2, rfl, r2, b2⟩
  replace kr := kr.beside b2 hS
  replace bb := Lib.hid (bel_beside bb.out b2 hRw)
  clear rd b2
  go_wp2_with fail
  refine (l20_arm R _ (1 + mn) _ _ r2 (by omega) (by omega) (by omega) (by omega) (by omega)).mono ?_
  rintro e w3 ⟨a1, n1, c1, a2, n2, c2, a3, n3, c3, l, lo, hi, rfl, hf, r3, b3⟩
  have hl2 := kr.lt
  replace kr := kr.beside b3 hS
  replace bb := Lib.hid (bel_beside bb.out b3 hRw)
  replace hf := Lib.hid hf
  have hl3 := b3.size
  have hR2 := r2.lt
  clear r2 b3
  go_wp2_with fail
  have kb := Cell3.new w3 (.slice a1 n1 c1) (.slice a2 n2 c2) (.slice a3 n3 c3) 25
  have hsB : w3.heap.size < (w3.alloc (.cells #[.slice a1 n1 c1, .slice a2 n2 c2, .slice a3 n3 c3] 25)).heap.size := by simp
  have hK4 := Lib.hid (World.size_alloc w3 (.cells #[.slice a1 n1 c1, .slice a2 n2 c2, .slice a3 n3 c3] 25))
  replace kr := kr.after (bel_new w3 (.cells #[.slice a1 n1 c1, .slice a2 n2 c2, .slice a3 n3 c3] 25))
  replace bb := Lib.hid (bel_after bb.out (bel_new w3 (.cells #[.slice a1 n1 c1, .slice a2 n2 c2, .slice a3 n3 c3] 25)))
  replace hf := Lib.hid (hf.out.after (bel_new w3 (.cells #[.slice a1 n1 c1, .slice a2 n2 c2, .slice a3 n3 c3] 25)))
  replace r3 := r3.alloc (.cells #[.slice a1 n1 c1, .slice a2 n2 c2, .slice a3 n3 c3] 25)
  generalize hK : w3.heap.size = K at kb ⊢ hl3 hsB hK4
  generalize w3.alloc (.cells #[.slice a1 n1 c1, .slice a2 n2 c2, .slice a3 n3 c3] 25) = w4 at *
  have hKR : K ≠ R := by omega
  have hKS : K ≠ w.heap.size := by omega
  have hSK : w.heap.size ≠ K := by omega
  clear hK
  obtain ⟨y0, y1, y2, y3, y4, y5⟩ := id kb
  go_wp2_with fail
  clear y0 y1 y2 y3 y4 y5
  refine (l20_joints R _ w2.heap.size a1 a2 a3 n1 c1 n2 c2 n3 c3 l lo hi _ _ r3 (by omega) (by omega) (by omega) (by omega) hf.out.draw).mono ?_
  rintro e w5 ⟨af, nf, cf, Jf, rfl, ⟨hjf1, hjf2⟩, hjf3, hjf4, rf, b⟩
  replace kr := kr.beside b hS
  replace kb := kb.beside b hKR
  replace hf := Lib.hid (hf.out.beside b (by omega))
  replace bb := Lib.hid (bel_beside bb.out b hRw)
  have hlf := b.size
  have hRlf := r3.lt
  replace hjf1 := Lib.hid hjf1
  replace hjf3 := Lib.hid hjf3
  replace hjf4 := Lib.hid hjf4
  clear b
  obtain ⟨y0, y1, y2, y3, y4, y5⟩ := id kb
  go_wp2_with fail
  clear y0 y1 y2 y3 y4 y5
  refine (l20_joints R _ w2.heap.size a1 a2 a3 n1 c1 n2 c2 n3 c3 l lo hi _ _ rf (by omega) (by omega) (by omega) (by omega) hf.out.draw).mono ?_
  rintro e w6 ⟨at_, nt, ct, Jt, rfl, ⟨hjt1, hjt2⟩, hjt3, hjt4, rt, b⟩
  replace kr := kr.beside b hS
  replace kb := kb.beside b hKR
  replace hf := Lib.hid (hf.out.beside b (by omega))
  replace bb := Lib.hid (bel_beside bb.out b hRw)
  have hlt := b.size
  have hRlt := rf.lt
  replace hjt1 := Lib.hid hjt1
  replace hjt3 := Lib.hid hjt3
  replace hjt4 := Lib.hid hjt4
  replace hjf4 := Lib.hid (hjf4.out.beside b (by omega))
  clear b
  obtain ⟨y0, y1, y2, y3, y4, y5⟩ := id kb
  go_wp2_with fail
  clear y0 y1 y2 y3 y4 y5
  refine (top_any R _ _ _ rt (by omega) (by omega) (by omega)).mono ?_
  rintro e w7 ⟨⟨top, rfl, tp1, tp2⟩, r7, b⟩
  replace kr := kr.beside b hS
  replace kb := kb.beside b hKR
  replace hf := Lib.hid (hf.out.beside b (by omega))
  replace bb := Lib.hid (bel_beside bb.out b hRw)
  replace hjf4 := Lib.hid (hjf4.out.beside b (by omega))
  replace hjt4 := Lib.hid (hjt4.out.beside b (by omega))
  have hl7 := b.size
  clear b
  go_wp2_with fail
  have rd8 : Rd w7.drew R _ := r7.drewN 1
  have kb8 := kb.drew
  have kr8 := kr.drew
  have hf8 := Lib.hid (hf.out.beside (beside_drew R w7) (by omega))
  have bb8 := Lib.hid (bb.out.drew)
  have hjf8 := Lib.hid (hjf4.out.beside (beside_drew R w7) (by omega))
  have hjt8 := Lib.hid (hjt4.out.beside (beside_drew R w7) (by omega))
  have s := And.intro kb8.c0 (And.intro kb8.c1 kb8.c2)
  obtain ⟨y0, y1, y2, y3, y4, y5⟩ := id kb
  obtain ⟨v0, v1, v2, v3, v4, v5⟩ := id kr
  go_region_held3 (fun w' => (w'.cell? ⟨K, 0, none⟩ = some (.slice a1 n1 c1) ∧ w'.cell? ⟨K, 1, none⟩ = some (.slice a2 n2 c2) ∧ w'.cell? ⟨K, 2, none⟩ = some (.slice a3 n3 c3))) (first | (with_reducible assumption) | go_keep) (first | (go_at_call 61; (with_reducible refine (rise_any R _ _ _ rd8 (by omega) (by omega) (by omega)).mono ?_); rintro e w9 ⟨⟨rise, rfl, rs1, rs2⟩, r9, b9⟩; have kb9 := kb8.beside b9 hKR; have kr9 := kr8.beside b9 hS; have hf9 := Lib.hid (hf8.out.beside b9 (by omega)); have bb9 := Lib.hid (bel_beside bb8.out b9 hRw); have hjf9 := Lib.hid (hjf8.out.beside b9 (by omega)); have hjt9 := Lib.hid (hjt8.out.beside b9 (by omega)); obtain ⟨t0, t1, t2, t3, t4, t5⟩ := id kb9; obtain ⟨w6_0, w6_1, w6_2, w6_3, w6_4, w6_5⟩ := id kr9; have s := And.intro t0 (And.intro t1 t2); obtain ⟨wf, hwf, kf, hff, bf, sf⟩ := res_fin kr9 hf9.out (by omega) bb9.out (Nat.le_refl _); have hjfs := Lib.hid (sf w4.heap.size af Jf (by omega) hjf9.out); have hjts := Lib.hid (sf w5.heap.size at_ Jt (by omega) hjt9.out); replace hwf := Lib.hid hwf.symm; obtain ⟨u0, u1, u2, u3, u4, u5⟩ := kf; replace hff := Lib.hid hff))
  all_goals
    go_wp2_with fail
    rw [hwf.out]
    exact bodyPost_ret (v := .tuple #[.agg #[.slice a1 n1 c1, .slice a2 n2 c2, .slice a3 n3 c3], .slice af nf cf, .slice at_ nt ct, .int .i64 top, .int .i64 rise]) (by simp [results, Try.results56, go_sem, u0, u1, u2]) rfl ⟨a1, n1, c1, a2, n2, c2, a3, n3, c3, l, lo, hi, af, nf, cf, Jf, at_, nt, ct, Jt, top, rise, rfl, hff.out.base (by omega), ⟨hjf1.out, by omega, hjf3.out, hjfs.out.base (by omega)⟩, ⟨hjt1.out, by omega, hjt3.out, hjts.out.base (by omega)⟩, ⟨⟨tp1, tp2⟩, ⟨rs1, rs2⟩⟩, bf⟩
set_option maxHeartbeats 2000000 in
theorem draw_MoveTime (a : Option Addr) (len cap : Nat) (zs : List Int) (w : World) (h : IsRow .u8 w a len cap zs) :
    Calls Try.prog 38 #[.slice a len cap] w (DrewMv w) := by
  have kr := Cell3.new w (.slice none 0 0) (.slice none 0 0) (.slice none 0 0) 25
  have bb := Lib.hid (bel_new w (.cells #[.slice none 0 0, .slice none 0 0, .slice none 0 0] 25))
  have hsz : w.heap.size < (w.alloc (.cells #[.slice none 0 0, .slice none 0 0, .slice none 0 0] 25)).heap.size := by simp
  have hrow := Lib.hid (h.below bb.out)
  go_enter Try.func38, Try.ntmps38
  go_wp2_with fail
  generalize w.alloc (.cells #[.slice none 0 0, .slice none 0 0, .slice none 0 0] 25) = w0 at *
  refine (draw_MoveJoints a len cap zs _ hrow.out).mono ?_
  rintro e w1 ⟨a1, n1, c1, a2, n2, c2, a3, n3, c3, l, lo, hi, af, nf, cf, f, at_, nt, ct, t, top, rise, rfl, hf, hjf, hjt, ⟨⟨tp1, tp2⟩, ⟨rs1, rs2⟩⟩, q⟩
  replace kr := kr.after q
  replace bb := Lib.hid (bel_after bb.out q)
  obtain ⟨wf, hwf, kf, hff, bf, sf⟩ := res_fin kr hf hsz bb.out (Nat.le_refl _)
  have hjfs := Lib.hid (sf _ af f hsz hjf.s)
  have hjts := Lib.hid (sf _ at_ t hsz hjt.s)
  replace hwf := Lib.hid hwf.symm
  obtain ⟨u0, u1, u2, u3, u4, u5⟩ := kf
  obtain ⟨v0, v1, v2, v3, v4, v5⟩ := id kr
  replace hff := Lib.hid hff
  replace hjf := Lib.hid hjf
  replace hjt := Lib.hid hjt
  clear q hrow hf
  go_wp2_with fail
  rw [hwf.out]
  exact bodyPost_ret (v := .tuple #[.agg #[.slice a1 n1 c1, .slice a2 n2 c2, .slice a3 n3 c3], .slice af nf cf, .slice at_ nt ct, .int .i64 top, .int .i64 rise]) (by simp [results, Try.results38, go_sem, u0, u1, u2]) rfl ⟨a1, n1, c1, a2, n2, c2, a3, n3, c3, l, lo, hi, af, nf, cf, f, at_, nt, ct, t, top, rise, rfl, hff.out.base (by omega), ⟨hjf.out.len, hjf.out.le, hjf.out.bd, hjfs.out.base (by omega)⟩, ⟨hjt.out.len, hjt.out.le, hjt.out.bd, hjts.out.base (by omega)⟩, ⟨⟨tp1, tp2⟩, ⟨rs1, rs2⟩⟩, bf⟩
end Go.Proofs.Ytnkjnphmpembaaa
