/- Contracts of the draws of arms, of arms with joint angles, and of moves. -/
import Derived.Test.YtegmhflbndnadaaDoorDrawJoints
namespace Go.Proofs.YtegmhflbndnadaaDoor
open Go.ChangeShapes Go.WideShapes Go.ChangeAt Go.RowKit
set_option linter.unusedVariables false
theorem beside_drew (R : Nat) (w : World) : Beside R w w.drew := ⟨rfl, rfl, rfl, Nat.le_refl _, fun _ _ _ => rfl⟩
theorem bel_beside {w a b : World} {R : Nat} (h : Below w.heap.size w a) (k : Beside R a b) (hR : w.heap.size ≤ R) : Below w.heap.size w b := h.trans (k.below hR h.size)
/-- three cells of the result are written -/
theorem res_fin {w W : World} {S B n1 c1 n2 c2 n3 c3 : Nat} {a1 a2 a3 : Option Addr} {l lo hi : List Int} {z1 z2 z3 : Value} (k : Cell3 W S z1 z2 z3) (hf : ArmFacts W B a1 n1 c1 a2 n2 c2 a3 n3 c3 l lo hi) (hS : S < B) (hb : Below w.heap.size w W) (hw : w.heap.size ≤ S) :
    ∃ wf, wf = ((W.setCell ⟨S, 0, none⟩ (.slice a1 n1 c1)).setCell ⟨S, 1, none⟩ (.slice a2 n2 c2)).setCell ⟨S, 2, none⟩ (.slice a3 n3 c3) ∧ Cell3 wf S (.slice a1 n1 c1) (.slice a2 n2 c2) (.slice a3 n3 c3) ∧ ArmFacts wf B a1 n1 c1 a2 n2 c2 a3 n3 c3 l lo hi ∧ Below w.heap.size w wf ∧ (∀ B' a J, S < B' → Span W B' a J → Span wf B' a J) :=
  ⟨_, rfl, ((k.put0 _).put1 _).put2 _, hf.keptBy (grown3 W S _ _ _) (fun i hi => by omega), ((hb.setCell (p := ⟨S, 0, none⟩) hw _).setCell (p := ⟨S, 1, none⟩) hw _).setCell (p := ⟨S, 2, none⟩) hw _, fun B' a J hB' h => h.keptBy (grown3 W S _ _ _) (fun i hi => by omega)⟩
def DrewArm (w : World) (e : Ending) (w' : World) : Prop := ∃ a1 n1 c1 a2 n2 c2 a3 n3 c3 l lo hi, e = .returned (.agg #[.slice a1 n1 c1, .slice a2 n2 c2, .slice a3 n3 c3]) ∧ ArmFacts w' w.heap.size a1 n1 c1 a2 n2 c2 a3 n3 c3 l lo hi ∧ Below w.heap.size w w'
/-- some angles, in the call's own memory -/
structure JFacts (w : World) (B : Nat) (a : Option Addr) (n : Nat) (J : List Int) : Prop where
  len : J.length = n
  le : n ≤ 6
  bd : ∀ x ∈ J, -1000 ≤ x ∧ x ≤ 1000
  s : Span w B a J
def DrewAJ (w : World) (e : Ending) (w' : World) : Prop := ∃ a1 n1 c1 a2 n2 c2 a3 n3 c3 l lo hi aj nj cj J, e = .returned (.tuple #[.agg #[.slice a1 n1 c1, .slice a2 n2 c2, .slice a3 n3 c3], .slice aj nj cj]) ∧ ArmFacts w' w.heap.size a1 n1 c1 a2 n2 c2 a3 n3 c3 l lo hi ∧ JFacts w' w.heap.size aj nj J ∧ Below w.heap.size w w'
set_option maxHeartbeats 4000000 in
theorem draw_ArmPoints (a : Option Addr) (len cap : Nat) (zs : List Int) (w : World) (h : IsRow .u8 w a len cap zs) :
    Calls Tryd.prog 29 #[.slice a len cap] w (DrewAJ w) := by
  have kr := Cell3.new w (.slice none 0 0) (.slice none 0 0) (.slice none 0 0) 29
  have bb := Lib.hid (bel_new w (.cells #[.slice none 0 0, .slice none 0 0, .slice none 0 0] 29))
  have hsz : w.heap.size < (w.alloc (.cells #[.slice none 0 0, .slice none 0 0, .slice none 0 0] 29)).heap.size := by simp
  have hrow := Lib.hid (h.below bb.out)
  go_enter Tryd.func29, Tryd.ntmps29
  go_wp2_with fail
  generalize w.alloc (.cells #[.slice none 0 0, .slice none 0 0, .slice none 0 0] 29) = w0 at *
  refine (open_any a len cap zs _ hrow.out).mono ?_
  rintro e w1 ⟨R, rfl, hR, rd, q⟩
  replace kr := kr.after q
  replace bb := Lib.hid (bel_after bb.out q)
  have hS : w.heap.size ≠ R := by omega
  have hRw : w.heap.size ≤ R := by omega
  clear q hrow
  go_wp2_with fail
  refine (pick_any R _ _ _ rd (by omega) (by omega) (by omega)).mono ?_
  rintro e w2 ⟨mn, p1, p2, rfl, r2, b2⟩
  replace kr := kr.beside b2 hS
  replace bb := Lib.hid (bel_beside bb.out b2 hRw)
  clear rd b2
  go_wp2_with fail
  refine (l20_arm R _ (1 + mn) _ _ r2 (by omega) (by omega) (by omega) (by omega) (by omega)).mono ?_
  rintro e w3 ⟨a1, n1, c1, a2, n2, c2, a3, n3, c3, l, lo, hi, rfl, hf, r3, b3⟩
  have hl2 := kr.lt
  replace kr := kr.beside b3 hS
  replace bb := Lib.hid (bel_beside bb.out b3 hRw)
  replace hf := Lib.hid hf
  have hl3 := b3.size
  have hR2 := r2.lt
  clear r2 b3
  go_wp2_with fail
  have kb := Cell3.new w3 (.slice a1 n1 c1) (.slice a2 n2 c2) (.slice a3 n3 c3) 29
  have hsB : w3.heap.size < (w3.alloc (.cells #[.slice a1 n1 c1, .slice a2 n2 c2, .slice a3 n3 c3] 29)).heap.size := by simp
  have hK4 := Lib.hid (World.size_alloc w3 (.cells #[.slice a1 n1 c1, .slice a2 n2 c2, .slice a3 n3 c3] 29))
  replace kr := kr.after (bel_new w3 (.cells #[.slice a1 n1 c1, .slice a2 n2 c2, .slice a3 n3 c3] 29))
  replace bb := Lib.hid (bel_after bb.out (bel_new w3 (.cells #[.slice a1 n1 c1, .slice a2 n2 c2, .slice a3 n3 c3] 29)))
  replace hf := Lib.hid (hf.out.after (bel_new w3 (.cells #[.slice a1 n1 c1, .slice a2 n2 c2, .slice a3 n3 c3] 29)))
  replace r3 := r3.alloc (.cells #[.slice a1 n1 c1, .slice a2 n2 c2, .slice a3 n3 c3] 29)
  generalize hK : w3.heap.size = K at kb ⊢ hl3 hsB hK4
  generalize w3.alloc (.cells #[.slice a1 n1 c1, .slice a2 n2 c2, .slice a3 n3 c3] 29) = w4 at *
  have hKR : K ≠ R := by omega
  have hKS : K ≠ w.heap.size := by omega
  have hSK : w.heap.size ≠ K := by omega
  clear hK
  have rd4 : Rd w4.drew R _ := r3.drewN 1
  have kb4 := kb.drew
  have kr4 := kr.drew
  have hd4 := Lib.hid (hf.out.draw.beside (beside_drew R w4) (by omega))
  have hf4 := Lib.hid (hf.out.beside (beside_drew R w4) (by omega))
  have bb4 := Lib.hid (bb.out.drew)
  have s := And.intro kb4.c0 (And.intro kb4.c1 kb4.c2)
  obtain ⟨y0, y1, y2, y3, y4, y5⟩ := id kb
  obtain ⟨v0, v1, v2, v3, v4, v5⟩ := id kr
  go_region_held3 (fun w' => (w'.cell? ⟨K, 0, none⟩ = some (.slice a1 n1 c1) ∧ w'.cell? ⟨K, 1, none⟩ = some (.slice a2 n2 c2) ∧ w'.cell? ⟨K, 2, none⟩ = some (.slice a3 n3 c3))) (first | (with_reducible assumption) | go_keep) (first | (go_at_call 53; (with_reducible refine (l20_joints R _ w2.heap.size a1 a2 a3 n1 c1 n2 c2 n3 c3 l lo hi _ _ rd4 (by omega) (by omega) (by omega) (by omega) hd4.out).mono ?_); rintro e w5 ⟨aj, nj, cj, J, rfl, ⟨hj1, hj2⟩, hj3, hj4, r5, b5⟩; have kb5 := kb4.beside b5 hKR; have kr5 := kr4.beside b5 hS; have hf5 := Lib.hid (hf4.out.beside b5 (by omega)); have bb5 := Lib.hid (bel_beside bb4.out b5 hRw); obtain ⟨t0, t1, t2, t3, t4, t5⟩ := id kb5; obtain ⟨w6_0, w6_1, w6_2, w6_3, w6_4, w6_5⟩ := id kr5; have s := And.intro t0 (And.intro t1 t2); obtain ⟨wf, hwf, kf, hff, bf, sf⟩ := res_fin kr5 hf5.out (by omega) bb5.out (Nat.le_refl _); have hjs := Lib.hid (sf w4.heap.size aj J (by omega) hj4); replace hwf := Lib.hid hwf.symm; replace hj1 := Lib.hid hj1; replace hj3 := Lib.hid hj3; obtain ⟨u0, u1, u2, u3, u4, u5⟩ := kf))
  all_goals
    go_wp2_with fail
    rw [hwf.out]
    exact bodyPost_ret (v := .tuple #[.agg #[.slice a1 n1 c1, .slice a2 n2 c2, .slice a3 n3 c3], .slice aj nj cj]) (by simp [results, Tryd.results29, go_sem, u0, u1, u2]) rfl ⟨a1, n1, c1, a2, n2, c2, a3, n3, c3, l, lo, hi, aj, nj, cj, J, rfl, hff.base (by omega), ⟨hj1.out, by omega, hj3.out, hjs.out.base (by omega)⟩, bf⟩
end Go.Proofs.YtegmhflbndnadaaDoor
